/- Values without memory, the state of one call, and that each slim operation does what the state says (first part). A base for the claims of this seat; it names no program. -/
import Derived.Calls
import Derived.Orders
import Derived.Below
import Derived.Laws.AppendOwn
import Derived.Laws.MakeOwn
import Derived.Laws.IdiomCopy
import Derived.Deep.MidRow
import Derived.Laws.AppendOwnNone
import Derived.Laws.Strings
import Derived.Lib.AppendZeros
import Derived.Lib.AppendZerosOnto
import Derived.Laws.BytesString
import Derived.Laws.BytesArg
set_option linter.unusedVariables false
set_option linter.unusedSimpArgs false
namespace Go.Vw
open Go.RowKit (Below)
inductive V where
 | b (x:Bool)
 | i (k:IntKind) (n:Int)
 | s (x:ByteArray)
 | sl (sz:Option Nat) (xs:List V)
 | ref (sz:Option Nat) (v:V)
 | clo (f:FuncId) (cap:List V)
 | agg (cs:List V)
instance:Inhabited V:=⟨.b false⟩
def Shape:Option Nat->Value->Prop
 | none,v=>v.oneCell'=true
 | some n,v=>∃ cs:Array Value,v= .agg cs/\cs.size=n/\∀ c∈cs,c.oneCell'=true
def width (sz:Option Nat):Nat:=sz.getD 1
theorem Shape.size {sz:Option Nat} {v:Value} (h:Shape sz v):v.cells.size=width sz:=by
 cases sz with
 | none=>cases v<;>simp_all [Shape,Value.oneCell',Value.cells,width]
 | some n=>obtain ⟨cs,rfl,h2,_⟩:=h; simpa [Value.cells,width] using h2
theorem Shape.one {sz:Option Nat} {v:Value} (h:Shape sz v):∀ c∈v.cells,c.oneCell'=true:=by
 cases sz with
 | none=>cases v<;>simp_all [Shape,Value.oneCell',Value.cells]
 | some n=>obtain ⟨cs,rfl,_,h3⟩:=h; simpa [Value.cells] using h3
theorem Shape.list {sz:Option Nat} {v:Value} (h:Shape sz v):v.cells.toList.length=width sz:=by simpa using h.size
inductive RelV (w:World) (ok:Nat->Prop):V->Value->Prop
 | b (x:Bool):RelV w ok (.b x) (.bool x)
 | i (k:IntKind) (n:Int):RelV w ok (.i k n) (.int k n)
 | s (x:ByteArray):RelV w ok (.s x) (.string x)
 | nil (sz:Option Nat):RelV w ok (.sl sz []) (.slice none 0 0)
 | void (sz:Option Nat) (a:Addr):RelV w ok (.sl sz []) (.slice (some a) 0 0)
 | sl (sz:Option Nat) (xs:List V) (blk off len cap:Nat) (val:Nat->Value) (hlen:len=xs.length) (hok:ok blk) (hcap:len<=cap)
  (hrel:∀ j (h:j<xs.length),RelV w ok (xs[j]) (val j))
  (hsh:∀ j,j<xs.length->Shape sz (val j))
  (hcell:∀ j,j<xs.length->w.rangeAt blk (off+j*width sz) (val j).cells.toList):
  RelV w ok (.sl sz xs) (.slice (some ⟨blk,off,none⟩) len cap)
 | ref (sz:Option Nat) (v:V) (blk off:Nat) (val:Value) (hok:ok blk) (hrel:RelV w ok v val) (hsh:Shape sz val)
  (hcell:w.rangeAt blk off val.cells.toList):RelV w ok (.ref sz v) (.pointer (some ⟨blk,off,none⟩))
 | clo (f:FuncId) (caps:List V) (vals:Array Value) (hlen:vals.size=caps.length)
  (hrel:∀ j (h:j<caps.length),RelV w ok (caps[j]) (vals.getD j undef)):RelV w ok (.clo f caps) (.func (.func f) #[] vals)
 | agg (cs:List V) (vals:Array Value) (hlen:vals.size=cs.length) (hone:∀ c∈vals,c.oneCell'=true)
  (hrel:∀ j (h:j<cs.length),RelV w ok (cs[j]) (vals.getD j undef)):RelV w ok (.agg cs) (.agg vals)
theorem rangeAt_mono {w w':World} {b o:Nat} {cs:List Value} (hc:∀ o,w'.cell? ⟨b,o,none⟩=w.cell? ⟨b,o,none⟩) (h:w.rangeAt b o cs):w'.rangeAt b o cs:=
 λj v hj=>by rw [hc]; exact h j v hj
theorem RelV.mono {w w':World} {ok ok':Nat->Prop} (hok:∀ b,ok b->ok' b) (hc:∀ b o,ok b->w'.cell? ⟨b,o,none⟩=w.cell? ⟨b,o,none⟩)
 {v:V} {val:Value} (h:RelV w ok v val):RelV w' ok' v val:=by
 induction h with
 | b x=>exact .b x
 | i k n=>exact .i k n
 | s x=>exact .s x
 | nil sz=>exact .nil sz
 | void sz a=>exact .void sz a
 | sl sz xs blk off len cap val hlen hb hcap hrel hsh hcell ih=>
  exact .sl sz xs blk off len cap val hlen (hok _ hb) hcap ih hsh λj hj=>rangeAt_mono (λo=>hc _ o hb) (hcell j hj)
 | ref sz v blk off val hb hrel hsh hcell ih=>exact .ref sz v blk off val (hok _ hb) ih hsh (rangeAt_mono (λo=>hc _ o hb) hcell)
 | clo f caps vals hlen hrel ih=>exact .clo f caps vals hlen ih
 | agg cs vals hlen hone hrel ih=>exact .agg cs vals hlen hone ih
inductive SV where
 | p (v:V)
 | any
 | own (r g off len:Nat)
 | ptr (r g j:Nat)
 | tup (vs:List SV)
 | bool
 | bnd (f:FuncId) (r g:Nat)
 | raw (v:Value)
 | agg (cs:List SV)
 | nil
instance:Inhabited SV:=⟨.any⟩
inductive HObj where
 | box (T:TypeId) (cs:List V)
 | arr (T:TypeId) (sz:Option Nat) (xs:List V)
 | rows (T:TypeId) (xs:List SV)
 | sbox (T:TypeId) (cs:List SV)
structure HC where
 g:Nat
 o:Option HObj
def HObj.width:HObj->Nat
 | .box _ _=>1
 | .arr _ sz _=>Vw.width sz
 | .rows _ _=>1
 | .sbox _ _=>1
def svref1:SV->List Nat
 | .own r _ _ _=>[r]
 | .ptr r _ _=>[r]
 | .bnd _ r _=>[r]
 | _=>[]
def svref:SV->List Nat
 | .own r _ _ _=>[r]
 | .ptr r _ _=>[r]
 | .bnd _ r _=>[r]
 | .agg cs=>cs.flatMap svref1
 | _=>[]
def HObj.refs:HObj->List Nat
 | .rows _ xs=>xs.flatMap svref
 | .sbox _ cs=>cs.flatMap svref
 | _=>[]
structure St where
 σ:Nat->SV
 h:Nat->HC
def blk:Value->Option Nat
 | .slice (some a) _ _=>some a.block
 | .pointer (some a)=>some a.block
 | _=>none
def SubOf (base:Value) (wd off len:Nat) (val:Value):Prop:=
 match base with
 | .slice none _ _=>val= .slice none 0 0/\off=0/\len=0
 | .slice (some a) n cap=>∃ bo c,val= .slice (some ⟨a.block,bo,none⟩) len c/\len<=c/\((c=0/\off=cap/\cap≠0)\/(bo=off*wd/\off+c=cap))
 | _=>False
def PtrOf (base:Value) (wd j:Nat) (val:Value):Prop:=∃ g,blk base=some g/\val= .pointer (some ⟨g,j*wd,none⟩)
def HC.width (c:HC):Nat:=match c.o with | some o=>o.width | none=>1
structure Base where
 w:World
 own:Nat->Prop
 at0:Nat->Option (Nat × Nat × Value)
def Base.B (b0:Base) (b:Nat):Prop:=b0.w.heap.size<=b\/b0.own b
structure BelowX (b0:Base) (w:World):Prop where
 os:w.os=b0.w.os
 tape:w.tape=b0.w.tape
 output:w.output=b0.w.output
 size:b0.w.heap.size<=w.heap.size
 block:∀ k,¬ b0.B k->w.heap[k]? =b0.w.heap[k]?
theorem BelowX.grow {b0:Base} {w w':World} (h:BelowX b0 w) (k:Below w.heap.size w w'):BelowX b0 w':=
 ⟨k.os.trans h.os,k.tape.trans h.tape,k.output.trans h.output,Nat.le_trans h.size k.size,λi hi=>(k.block i (by
  have:¬ b0.w.heap.size<=i:=λe=>hi (.inl e);have:=h.size;omega)).trans (h.block i hi)⟩
def owns (w:World) (B:Nat->Prop) (e:TypeId) (size:Nat) (v:Value) (n:Nat) (xs:List Value):Prop:=
 xs.length=n*size/\
 ((v= .slice none 0 0/\n=0)\/
  ∃ g cap cur,v= .slice (some ⟨g,0,none⟩) n cap/\B g/\w.heap[g]? =some (.cells cur e (0,0))/\n<=cap/\cap<=maxLen/\cur.size=cap*size/\cur.toList.take (n*size)=xs)
theorem owns_of {w:World} {k:Nat} {B:Nat->Prop} {e:TypeId} {size:Nat} {v:Value} {n:Nat} {xs:List Value} (h:w.ownsRow k e size v n xs) (hB:∀ b,blk v=some b->B b):owns w B e size v n xs:=by
 refine ⟨h.1,?_⟩;rcases h.2 with h2 | ⟨g,cap,cur,e1,e2,e3⟩
 . exact .inl h2
 . exact .inr ⟨g,cap,cur,e1,hB g (by rw [e1]; rfl),e3⟩
theorem owns.row {w:World} {B:Nat->Prop} {e:TypeId} {size:Nat} {v:Value} {n:Nat} {xs:List Value} (h:owns w B e size v n xs):w.ownsRow 0 e size v n xs:=by
 refine ⟨h.1,?_⟩;rcases h.2 with h2 | ⟨g,cap,cur,e1,e2,e3⟩
 . exact .inl h2
 . exact .inr ⟨g,cap,cur,e1,Nat.zero_le _,e3⟩
inductive RelS (w:World) (ok:Nat->Prop) (μ:Nat->Value) (h:Nat->HC):SV->Value->Prop
 | p (v:V) (val:Value) (hv:RelV w ok v val):RelS w ok μ h (.p v) val
 | any (val:Value):RelS w ok μ h .any val
 | own_stale (r g off len:Nat) (val:Value) (hg:g<(h r).g) (hone:val.oneCell'=true):RelS w ok μ h (.own r g off len) val
 | own (r g off len:Nat) (val:Value) (hg:g=(h r).g) (hs:SubOf (μ r) (h r).width off len val):RelS w ok μ h (.own r g off len) val
 | ptr_stale (r g j:Nat) (val:Value) (hg:g<(h r).g):RelS w ok μ h (.ptr r g j) val
 | ptr (r g j:Nat) (val:Value) (hg:g=(h r).g) (hs:PtrOf (μ r) (h r).width j val):RelS w ok μ h (.ptr r g j) val
 | tup (vs:List SV) (vals:Array Value) (hlen:vals.size=vs.length) (hrel:∀ j (hj:j<vs.length),RelS w ok μ h (vs[j]) (vals.getD j undef)):
  RelS w ok μ h (.tup vs) (.tuple vals)
 | bool (x:Bool):RelS w ok μ h .bool (.bool x)
 | raw (val:Value):RelS w ok μ h (.raw val) val
 | bnd_stale (f:FuncId) (r g:Nat) (val:Value) (hg:g<(h r).g):RelS w ok μ h (.bnd f r g) val
 | bnd (f:FuncId) (r g:Nat) (pv:Value) (hg:g=(h r).g) (hs:PtrOf (μ r) (h r).width 0 pv):RelS w ok μ h (.bnd f r g) (.func (.func f) #[pv] #[])
 | agg (cs:List SV) (vals:Array Value) (hlen:vals.size=cs.length) (hone:∀ c∈vals,c.oneCell'=true)
  (hrel:∀ j (hj:j<cs.length),RelS w ok μ h (cs[j]) (vals.getD j undef)):RelS w ok μ h (.agg cs) (.agg vals)
 | nil:RelS w ok μ h .nil (.slice none 0 0)
def RelCells (w:World) (ok:Nat->Prop) (μ:Nat->Value) (h:Nat->HC) (xs:List SV) (flat:List Value):Prop:=
 flat.length=xs.length/\∀ j (hj:j<xs.length),RelS w ok μ h (xs[j]) (flat.getD j undef)/\(flat.getD j undef).oneCell'=true
def RelFlat (w:World) (ok:Nat->Prop) (sz:Option Nat) (xs:List V) (flat:List Value):Prop:=
 ∃ vals:List Value,vals.length=xs.length/\(∀ j (h:j<xs.length),RelV w ok (xs[j]) (vals.getD j undef))/\(∀ v∈vals,Shape sz v)/\flat=vals.flatMap (·.cells.toList)
def RelObj (w:World) (ok:Nat->Prop) (B:Nat->Prop) (base:Value):HObj->Prop
 | .box T cs=>∃ g cells,base= .pointer (some ⟨g,0,none⟩)/\B g/\w.heap[g]? =some (.cells cells T (0,0))/\RelFlat w ok none cs cells.toList
 | .arr T sz xs=>∃ flat,owns w B T (width sz) base xs.length flat/\RelFlat w ok sz xs flat
 | _=>False
def RelObjX (w:World) (ok:Nat->Prop) (B:Nat->Prop) (μ:Nat->Value) (h:Nat->HC) (base:Value):HObj->Prop
 | .rows T xs=>∃ flat,owns w B T 1 base xs.length flat/\RelCells w ok μ h xs flat
 | .sbox T cs=>∃ g cells,base= .pointer (some ⟨g,0,none⟩)/\B g/\w.heap[g]? =some (.cells cells T (0,0))/\RelCells w ok μ h cs cells.toList
 | .box T cs=>RelObj w ok B base (.box T cs)
 | .arr T sz xs=>RelObj w ok B base (.arr T sz xs)
def okOf (A:Nat->Prop) (w:World) (μ:Nat->Value) (h:Nat->HC) (b:Nat):Prop:=A b/\b<w.heap.size/\∀ r,(h r).o≠none->blk (μ r)≠some b
structure HeapOK (A:Nat->Prop) (w:World) (B:Base) (μ:Nat->Value) (h:Nat->HC):Prop where
 obj:∀ r o,(h r).o=some o->RelObjX w (okOf A w μ h) B.B μ h (μ r) o
 inj:∀ r r' b,(h r).o≠none->(h r').o≠none->blk (μ r)=some b->blk (μ r')=some b->r=r'
 giv:∀ r g wd v,B.at0 r=some (g,wd,v)->g<(h r).g\/((h r).g=g/\(h r).width=wd/\μ r=v)
 clo:∀ r o,(h r).o=some o->1000<=r->∀ q∈o.refs,1000<=q
structure RelSt (A:Nat->Prop) (w0:Base) (n:Nat) (S:St) (a:Act) (w:World):Prop where
 ex:∃ μ,HeapOK A w w0 μ S.h/\(∀ t,RelS w (okOf A w μ S.h) μ S.h (S.σ t) (a.tmps.getD t undef))
 below:BelowX w0 w
 size:a.tmps.size=n
 defers:a.defers=[]
 new:∀ b,w0.B b->A b
def upd {α:Type} (f:Nat->α) (k:Nat) (v:α):Nat->α:=λx=>if x=k then v else f x
@[simp] theorem upd_same {α:Type} (f:Nat->α) (k:Nat) (v:α):upd f k v k=v:=by simp [upd]
theorem upd_ne {α:Type} (f:Nat->α) {k x:Nat} (v:α) (h:x≠k):upd f k v x=f x:=by simp [upd,h]
theorem upd_apply {α:Type} (f:Nat->α) (k x:Nat) (v:α):upd f k v x=if x=k then v else f x:=rfl
end Go.Vw
namespace Go.Vw
open Go.RowKit (Below)
theorem cell?_of_heap {w w':World} {b:Nat} (h:w'.heap[b]? =w.heap[b]?) (o:Nat):w'.cell? ⟨b,o,none⟩=w.cell? ⟨b,o,none⟩:=by
 simp [World.cell?,h]
theorem RelFlat.mono {w w':World} {ok ok':Nat->Prop} (hok:∀ b,ok b->ok' b) (hc:∀ b o,ok b->w'.cell? ⟨b,o,none⟩=w.cell? ⟨b,o,none⟩)
 {sz:Option Nat} {xs:List V} {flat:List Value} (h:RelFlat w ok sz xs flat):RelFlat w' ok' sz xs flat:=by
 obtain ⟨vals,h1,h2,h3,h4⟩:=h;exact ⟨vals,h1,λj hj=>(h2 j hj).mono hok hc,h3,h4⟩
theorem ownsRow_heap {w w':World} {B:Nat->Prop} {T:TypeId} {size n:Nat} {v:Value} {xs:List Value}
 (hb:∀ b,blk v=some b->w'.heap[b]? =w.heap[b]?) (h:owns w B T size v n xs):owns w' B T size v n xs:=by
 refine ⟨h.1,?_⟩;rcases h.2 with h2 | ⟨g,cap,cur,rfl,hg,hh,r⟩
 . exact .inl h2
 . exact .inr ⟨g,cap,cur,rfl,hg,by rw [hb g rfl]; exact hh,r⟩
theorem RelObj.keep {w w':World} {ok ok':Nat->Prop} {B:Nat->Prop} {base:Value} {o:HObj} (h:RelObj w ok B base o) (hok:∀ b,ok b->ok' b)
 (hc:∀ b o,ok b->w'.cell? ⟨b,o,none⟩=w.cell? ⟨b,o,none⟩) (hb:∀ b,blk base=some b->w'.heap[b]? =w.heap[b]?):RelObj w' ok' B base o:=by
 cases o with
 | box T cs=>
  obtain ⟨g,cells,rfl,h1,h2,h3⟩:=h;exact ⟨g,cells,rfl,h1,by rw [hb g rfl]; exact h2,h3.mono hok hc⟩
 | arr T sz xs=>
  obtain ⟨flat,h1,h2⟩:=h;exact ⟨flat,ownsRow_heap hb h1,h2.mono hok hc⟩
 | _=>exact h.elim
theorem RelObj.x {w:World} {ok:Nat->Prop} {B:Nat->Prop} {base:Value} {o:HObj} (h:RelObj w ok B base o) (μ:Nat->Value) (hp:Nat->HC):RelObjX w ok B μ hp base o:=by
 cases o with
 | box T cs=>exact h
 | arr T sz xs=>exact h
 | _=>exact h.elim
theorem RelObj.refs {w:World} {ok:Nat->Prop} {B:Nat->Prop} {base:Value} {o:HObj} (h:RelObj w ok B base o):o.refs=[]:=by
 cases o with
 | box T cs=>rfl
 | arr T sz xs=>rfl
 | _=>exact h.elim
theorem RelObj.lt {w:World} {ok:Nat->Prop} {B:Nat->Prop} {base:Value} {o:HObj} (h:RelObj w ok B base o) {b:Nat} (hb:blk base=some b):B b/\b<w.heap.size:=by
 cases o with
 | box T cs=>
  obtain ⟨g,cells,rfl,h1,h2,h3⟩:=h;simp only [blk,Option.some.injEq] at hb; subst hb;exact ⟨h1,(Array.getElem?_eq_some_iff.1 h2).1⟩
 | arr T sz xs=>
  obtain ⟨flat,h1,h2⟩:=h;rcases h1.2 with ⟨rfl,_⟩ | ⟨g,cap,cur,rfl,hg,hh,r⟩
  . simp [blk] at hb
  . simp only [blk,Option.some.injEq] at hb; subst hb;exact ⟨hg,(Array.getElem?_eq_some_iff.1 hh).1⟩
 | _=>exact h.elim
theorem RelObjX.lt {w:World} {ok:Nat->Prop} {B:Nat->Prop} {μ:Nat->Value} {hp:Nat->HC} {base:Value} {o:HObj} (h:RelObjX w ok B μ hp base o) {b:Nat} (hb:blk base=some b):B b/\b<w.heap.size:=by
 cases o with
 | box T cs=>exact RelObj.lt (o:=.box T cs) h hb
 | arr T sz xs=>exact RelObj.lt (o:=.arr T sz xs) h hb
 | sbox T cs=>
  obtain ⟨g,cells,rfl,h1,h2,h3⟩:=h;simp only [blk,Option.some.injEq] at hb; subst hb;exact ⟨h1,(Array.getElem?_eq_some_iff.1 h2).1⟩
 | rows T xs=>
  obtain ⟨flat,h1,h2⟩:=h;rcases h1.2 with ⟨rfl,_⟩ | ⟨g,cap,cur,rfl,hg,hh,r⟩
  . simp [blk] at hb
  . simp only [blk,Option.some.injEq] at hb; subst hb;exact ⟨hg,(Array.getElem?_eq_some_iff.1 hh).1⟩
theorem SubOf.one {base:Value} {wd off len:Nat} {val:Value} (h:SubOf base wd off len val):val.oneCell'=true:=by
 unfold SubOf at h;split at h
 . rw [h.1]; rfl
 . obtain ⟨bo,c,rfl,_⟩:=h; rfl
 . exact h.elim
structure Keeps (A:Nat->Prop) (w:World) (μ:Nat->Value) (h:Nat->HC) (w':World) (μ':Nat->Value) (h':Nat->HC):Prop where
 ok:∀ b,okOf A w μ h b->okOf A w' μ' h' b
 cell:∀ b o,okOf A w μ h b->w'.cell? ⟨b,o,none⟩=w.cell? ⟨b,o,none⟩
 ref:∀ r,(h r).g<(h' r).g\/((h' r).g=(h r).g/\(h' r).width=(h r).width/\μ' r=μ r)
theorem Keeps.refl (A:Nat->Prop) (w:World) (μ:Nat->Value) (h:Nat->HC):Keeps A w μ h w μ h:=⟨λ_ h=>h,λ_ _ _=>rfl,λ_=>.inr ⟨rfl,rfl,rfl⟩⟩
theorem RelS.keep {A:Nat->Prop} {w w':World} {μ μ':Nat->Value} {h h':Nat->HC} (k:Keeps A w μ h w' μ' h') {sv:SV} {val:Value}
 (hs:RelS w (okOf A w μ h) μ h sv val):RelS w' (okOf A w' μ' h') μ' h' sv val:=by
 induction hs with
 | p v val hv=>exact .p v val (hv.mono k.ok k.cell)
 | any val=>exact .any val
 | bool x=>exact .bool x
 | raw v=>exact .raw v
 | own_stale r g off len val hg hone=>exact .own_stale r g off len val (by rcases k.ref r with h | h<;>omega) hone
 | own r g off len val hg hs=>
  rcases k.ref r with h1 | ⟨h1,h2,h3⟩
  . exact .own_stale r g off len val (by omega) hs.one
  . exact .own r g off len val (by omega) (by rw [h2,h3]; exact hs)
 | ptr_stale r g j val hg=>exact .ptr_stale r g j val (by rcases k.ref r with h | h<;>omega)
 | ptr r g j val hg hs=>
  rcases k.ref r with h1 | ⟨h1,h2,h3⟩
  . exact .ptr_stale r g j val (by omega)
  . exact .ptr r g j val (by omega) (by rw [h2,h3]; exact hs)
 | tup vs vals hlen hrel ih=>exact .tup vs vals hlen ih
 | bnd_stale f r g val hg=>exact .bnd_stale f r g val (by rcases k.ref r with h | h<;>omega)
 | bnd f r g pv hg hs=>
  rcases k.ref r with h1 | ⟨h1,h2,h3⟩
  . exact .bnd_stale f r g _ (by omega)
  . exact .bnd f r g pv (by omega) (by rw [h2,h3]; exact hs)
 | agg cs vals hlen hone hrel ih=>exact .agg cs vals hlen hone ih
 | nil=>exact .nil
theorem RelCells.keep {A:Nat->Prop} {w w':World} {μ μ':Nat->Value} {h h':Nat->HC} (k:Keeps A w μ h w' μ' h') {xs:List SV} {flat:List Value}
 (hs:RelCells w (okOf A w μ h) μ h xs flat):RelCells w' (okOf A w' μ' h') μ' h' xs flat:=⟨hs.1,λj hj=>⟨(hs.2 j hj).1.keep k,(hs.2 j hj).2⟩⟩
theorem RelObjX.keep {A:Nat->Prop} {w w':World} {μ μ':Nat->Value} {h h':Nat->HC} (k:Keeps A w μ h w' μ' h') {B:Nat->Prop} {base:Value} {o:HObj} (hx:RelObjX w (okOf A w μ h) B μ h base o)
 (hb:∀ b,blk base=some b->w'.heap[b]? =w.heap[b]?):RelObjX w' (okOf A w' μ' h') B μ' h' base o:=by
 cases o with
 | box T cs=>exact RelObj.keep (o:=.box T cs) hx k.ok k.cell hb
 | arr T sz xs=>exact RelObj.keep (o:=.arr T sz xs) hx k.ok k.cell hb
 | sbox T cs=>
  obtain ⟨g,cells,rfl,h1,h2,h3⟩:=hx;exact ⟨g,cells,rfl,h1,by rw [hb g rfl]; exact h2,h3.keep k⟩
 | rows T xs=>
  obtain ⟨flat,h1,h2⟩:=hx;exact ⟨flat,ownsRow_heap hb h1,h2.keep k⟩
theorem HeapOK.changeX {A:Nat->Prop} {w w':World} {B:Base} {μ:Nat->Value} {h:Nat->HC} (H:HeapOK A w B μ h) (r:Nat) (c:HC) (base:Value)
 (hsize:w.heap.size<=w'.heap.size)
 (hoth:∀ b,b<w.heap.size->((h r).o≠none->blk (μ r)≠some b)->w'.heap[b]? =w.heap[b]?)
 (hnew:∀ b,c.o≠none->blk base=some b->((h r).o≠none/\blk (μ r)=some b)\/w.heap.size<=b)
 (hobj:∀ o,c.o=some o->Keeps A w μ h w' (upd μ r base) (upd h r c)->RelObjX w' (okOf A w' (upd μ r base) (upd h r c)) B.B (upd μ r base) (upd h r c) base o)
 (hg:(h r).g<c.g\/(c.g=(h r).g/\c.width=(h r).width/\base=μ r))
 (hclo:∀ o,c.o=some o->Keeps A w μ h w' (upd μ r base) (upd h r c)->1000<=r->∀ q∈o.refs,1000<=q):
 HeapOK A w' B (upd μ r base) (upd h r c)/\Keeps A w μ h w' (upd μ r base) (upd h r c):=by
 have hok:∀ b,okOf A w μ h b->okOf A w' (upd μ r base) (upd h r c) b:=by
  intro b hb;refine ⟨hb.1,Nat.lt_of_lt_of_le hb.2.1 hsize,λr' hr'=>?_⟩;by_cases e:r'=r
  . subst e;simp only [upd_same] at hr' ⊢;intro hbl;rcases hnew b hr' hbl with ⟨h1,h2⟩ | h1
    . exact hb.2.2 r' h1 h2
    . have:=hb.2.1; omega
  . rw [upd_ne _ _ e] at hr' ⊢;exact hb.2.2 r' hr'
 have hcell:∀ b o,okOf A w μ h b->w'.cell? ⟨b,o,none⟩=w.cell? ⟨b,o,none⟩:=λb o hb=>
  cell?_of_heap (hoth b hb.2.1 (λhl=>hb.2.2 r hl)) o
 have K:Keeps A w μ h w' (upd μ r base) (upd h r c):=by
  refine ⟨hok,hcell,λr'=>?_⟩;by_cases e:r'=r
  . subst e; rw [upd_same,upd_same]; exact hg
  . rw [upd_ne _ _ e,upd_ne _ _ e]; exact .inr ⟨rfl,rfl,rfl⟩
 refine ⟨⟨?_,?_,?_,?_⟩,K⟩
 . intro r' o ho;by_cases e:r'=r
   . subst e;rw [upd_same] at ho;have:=hobj o ho K;rw [upd_same]; exact this
   . rw [upd_ne _ _ e] at ho;have:=(H.obj r' o ho).keep K λb hb=>hoth b ((H.obj r' o ho).lt hb).2 (λhl hb'=>e (H.inj r' r b (by rw [ho]; simp) hl hb hb'));rw [upd_ne _ _ e]; exact this
 . have hlt:∀ r' b,(h r').o≠none->blk (μ r')=some b->b<w.heap.size:=by
    intro r' b hl hb;cases ho:(h r').o with
    | none=>exact absurd ho hl
    | some o=>exact ((H.obj r' o ho).lt hb).2
   intro r1 r2 b h1 h2 b1 b2;by_cases e1:r1=r<;>by_cases e2:r2=r
   . rw [e1,e2]
   . subst e1;rw [upd_same] at h1 b1;rw [upd_ne _ _ e2] at h2 b2;rcases hnew b h1 b1 with ⟨hl,hb⟩ | hb
     . exact (H.inj r2 r1 b h2 hl b2 hb).symm
     . have:=hlt r2 b h2 b2; omega
   . subst e2;rw [upd_same] at h2 b2;rw [upd_ne _ _ e1] at h1 b1;rcases hnew b h2 b2 with ⟨hl,hb⟩ | hb
     . exact H.inj r1 r2 b h1 hl b1 hb
     . have:=hlt r1 b h1 b1; omega
   . rw [upd_ne _ _ e1] at h1 b1;rw [upd_ne _ _ e2] at h2 b2;exact H.inj r1 r2 b h1 h2 b1 b2
 . intro r' g wd v hv;by_cases e:r'=r
   . subst e;rw [upd_same,upd_same];rcases H.giv r' g wd v hv with h1 | ⟨h1,h2,h3⟩<;>rcases hg with hg | ⟨hg,hw,rfl⟩
     . exact .inl (by omega)
     . exact .inl (by omega)
     . exact .inl (by omega)
     . exact .inr ⟨by omega,by rw [hw]; exact h2,h3⟩
   . rw [upd_ne _ _ e,upd_ne _ _ e];exact H.giv r' g wd v hv
 . intro r' o ho;by_cases e:r'=r
   . subst e;rw [upd_same] at ho;exact hclo o ho K
   . rw [upd_ne _ _ e] at ho;exact H.clo r' o ho
theorem HeapOK.change {A:Nat->Prop} {w w':World} {B:Base} {μ:Nat->Value} {h:Nat->HC} (H:HeapOK A w B μ h) (r:Nat) (c:HC) (base:Value)
 (hsize:w.heap.size<=w'.heap.size)
 (hoth:∀ b,b<w.heap.size->((h r).o≠none->blk (μ r)≠some b)->w'.heap[b]? =w.heap[b]?)
 (hnew:∀ b,c.o≠none->blk base=some b->((h r).o≠none/\blk (μ r)=some b)\/w.heap.size<=b)
 (hobj:∀ o,c.o=some o->(∀ b,okOf A w μ h b->okOf A w' (upd μ r base) (upd h r c) b)->(∀ b o,okOf A w μ h b->w'.cell? ⟨b,o,none⟩=w.cell? ⟨b,o,none⟩)->
  RelObj w' (okOf A w' (upd μ r base) (upd h r c)) B.B base o)
 (hg:(h r).g<c.g\/(c.g=(h r).g/\c.width=(h r).width/\base=μ r)):
 HeapOK A w' B (upd μ r base) (upd h r c)/\Keeps A w μ h w' (upd μ r base) (upd h r c):=
 H.changeX r c base hsize hoth hnew (λo ho K=>(hobj o ho K.ok K.cell).x _ _) hg (λo ho K _ q hq=>by rw [(hobj o ho K.ok K.cell).refs] at hq; cases hq)
theorem HeapOK.grow {A:Nat->Prop} {w w':World} {B:Base} {μ:Nat->Value} {h:Nat->HC} (H:HeapOK A w B μ h) (hb:Below w.heap.size w w'):
 HeapOK A w' B μ h/\Keeps A w μ h w' μ h:=by
 have hok:∀ b,okOf A w μ h b->okOf A w' μ h b:=λb hb'=>⟨hb'.1,Nat.lt_of_lt_of_le hb'.2.1 hb.size,hb'.2.2⟩;have hcell:∀ b o,okOf A w μ h b->w'.cell? ⟨b,o,none⟩=w.cell? ⟨b,o,none⟩:=λb o hb'=>cell?_of_heap (hb.block b hb'.2.1) o;have K:Keeps A w μ h w' μ h:=⟨hok,hcell,λr=>.inr ⟨rfl,rfl,rfl⟩⟩;exact ⟨⟨λr o ho=>(H.obj r o ho).keep K λb hb'=>hb.block b ((H.obj r o ho).lt hb').2,H.inj,H.giv,H.clo⟩,K⟩
theorem getD_put (tmps:Array Value) (d t:Nat) (v:Value) (h:d<tmps.size):(tmps.setIfInBounds d v).getD t undef=if t=d then v else tmps.getD t undef:=by
 by_cases e:t=d
 . subst e; simp [Array.getD,h]
 . have:d≠t:=λh=>e h.symm;simp [Array.getD_eq_getD_getElem?,Array.getElem?_setIfInBounds,this,e]
def St.put (S:St) (d:Option Nat) (x:SV):St:=
 match d with
 | some d=>⟨upd S.σ d x,S.h⟩
 | none=>S
def St.heap (S:St) (δ:Option (Nat × HC)):St:=
 match δ with
 | some (r,c)=>⟨S.σ,upd S.h r c⟩
 | none=>S
theorem RelSt.put' {A:Nat->Prop} {w0:Base} {w w':World} {n:Nat} {S:St} {a:Act} {μ μ':Nat->Value} {h':Nat->HC} {d:Option Nat} {x:SV} {val:Value}
 (hrel:∀ t,RelS w (okOf A w μ S.h) μ S.h (S.σ t) (a.tmps.getD t undef)) (hsize:a.tmps.size=n) (hdef:a.defers=[]) (hA:∀ b,w0.B b->A b)
 (H':HeapOK A w' w0 μ' h') (k:Keeps A w μ S.h w' μ' h') (hbelow:BelowX w0 w')
 (hd:∀ t,d=some t->t<n) (hx:RelS w' (okOf A w' μ' h') μ' h' x val):RelSt A w0 n (St.put ⟨S.σ,h'⟩ d x) (a.put d val) w':=by
 cases d with
 | none=>exact ⟨⟨μ',H',λt=>(hrel t).keep k⟩,hbelow,hsize,hdef,hA⟩
 | some d=>
  refine ⟨⟨μ',H',λt=>?_⟩,hbelow,by simpa [Act.put] using hsize,hdef,hA⟩;simp only [St.put,Act.put];rw [getD_put _ _ _ _ (by rw [hsize]; exact hd d rfl),upd_apply];split
  . exact hx
  . exact (hrel t).keep k
end Go.Vw
namespace Go.Vw
open Go.RowKit (Below)
inductive SX where
 | t (n:Nat)
 | c (v:V)
 | f (id:FuncId)
inductive SO where
 | mv (x:SX)
 | pick (c a b:SX)
 | box (T:TypeId) (x:SX)
 | alloc (T:TypeId) (zs:List V)
 | build (zs:List V) (parts:List (Nat × Nat × SX))
 | mkSl (T:TypeId) (sz:Option Nat) (parts:List SX)
 | load (sz:Option Nat) (a:SX)
 | store (sz:Option Nat) (a v:SX)
 | bin (op:BinOp) (x y:SX)
 | eqb (neg:Bool) (x y:SX)
 | un (op:UnOp) (x:SX)
 | conv (k:IntKind) (x:SX)
 | s2b (x:SX)
 | b2s (x:SX)
 | makeFn (f:FuncId) (caps:List SX)
 | makeB (f:FuncId) (x:SX)
 | make (T:TypeId) (sz:Option Nat) (z:V) (bytes:Nat) (l:SX)
 | slice (sz:Option (Option Nat)) (x:SX) (lo hi:Option SX)
 | fieldAddr (off:Nat) (sz:Option Nat) (a:SX)
 | field (off:Nat) (sz:Option Nat) (x:SX)
 | indexAddr (sz:Option Nat) (x i:SX)
 | index (x i:SX)
 | extract (x:SX) (j:Nat)
 | nilCheck (x:SX)
 | call (f:SX) (args:List SX)
 | len (str:Bool) (x:SX)
 | append (T:TypeId) (sz:Option Nat) (bytes:Nat) (x y:SX)
 | appendZ (T:TypeId) (sz:Option Nat) (z:V) (bytes:Nat) (x l:SX)
 | copy (sz:Option Nat) (x y:SX)
 | mm (isMax:Bool) (x y:SX)
 | nilSl (T:TypeId) (sz:Option Nat)
 | isNil (neg:Bool) (x:SX)
 | nilFn
 | bad
structure SOp where
 dst:Option Nat
 op:SO
 guard:Option (Nat × Bool)
def V.isAgg:V->Bool
 | .agg _=>true
 | _=>false
def V.cells:V->List V
 | .agg cs=>cs
 | v=>[v]
def V.fits (sz:Option Nat) (v:V):Prop:=
 match sz with
 | none=>v.isAgg=false
 | some n=>v.isAgg=true/\v.cells.length=n
def V.part (cs:List V) (off:Nat):Option Nat->V
 | none=>cs.getD off default
 | some n=>.agg ((cs.drop off).take n)
def partOk (cs:List V) (off:Nat):Option Nat->Prop
 | none=>off<cs.length
 | some n=>off+n<=cs.length
def fillV (zs:List V):List (Nat × Nat)->List V->List V
 | (off,n)::ps,v::vs=>fillV (zs.take off++v.cells++zs.drop (off+n)) ps vs
 | _,_=>zs
def fillOk:List (Nat × Nat)->List V->Prop
 | (off,n)::ps,v::vs=>v.cells.length=n/\fillOk ps vs
 | [],[]=>True
 | _,_=>False
def plains:List SV->Option (List V)
 | []=>some []
 | .p v::rest=>(plains rest).map (v:: ·)
 | _::_=>none
inductive AR where
 | v (c:Prop) (x:SV) (δ:Option (Nat × HC))
 | call (f:FuncId) (args:List V)
 | callG (f:FuncId) (c:Prop) (r:Nat) (o:HObj) (args:List V)
 | stuck
def abin (op:BinOp):V->V->Option (Prop × V)
 | .i k a,.i k' b=>
  match op with
  | .shl=>some (0<=b,.i k (k.wrap (a*2^(min b.toNat k.bits))))
  | .shr=>some (0<=b,.i k (a.fdiv (2^(min b.toNat k.bits))))
  | .add=>some (k=k',.i k (k.wrap (a+b)))
  | .sub=>some (k=k',.i k (k.wrap (a-b)))
  | .mul=>some (k=k',.i k (k.wrap (a*b)))
  | .quo=>some (k=k'/\b≠0,.i k (k.wrap (a.tdiv b)))
  | .rem=>some (k=k'/\b≠0,.i k (a.tmod b))
  | .and=>some (k=k',.i k (k.wrap (BitVec.ofInt k.bits a &&& BitVec.ofInt k.bits b).toNat))
  | .or=>some (k=k',.i k (k.wrap (BitVec.ofInt k.bits a ||| BitVec.ofInt k.bits b).toNat))
  | .xor=>some (k=k',.i k (k.wrap (BitVec.ofInt k.bits a ^^^ BitVec.ofInt k.bits b).toNat))
  | .andNot=>some (k=k',.i k (k.wrap (BitVec.ofInt k.bits a &&& ~~~(BitVec.ofInt k.bits b)).toNat))
  | .eql=>some (k=k',.b (a == b))
  | .neq=>some (k=k',.b (a != b))
  | .lss=>some (k=k',.b (decide (a<b)))
  | .leq=>some (k=k',.b (decide (a<=b)))
  | .gtr=>some (k=k',.b (decide (a>b)))
  | .geq=>some (k=k',.b (decide (a≥b)))
 | .s a,.s b=>
  match op with
  | .add=>some (((a.size+b.size:Nat):Int)<=IntKind.i64.max,.s (a++b))
  | .eql=>some (True,.b (a.toList == b.toList))
  | .neq=>some (True,.b (!(a.toList == b.toList)))
  | _=>none
 | _,_=>none
def aun (op:UnOp):V->Option V
 | .b x=>match op with | .not=>some (.b (!x)) | _=>none
 | .i k n=>match op with
  | .neg=>some (.i k (k.wrap (0-n)))
  | .xor=>some (.i k (k.wrap (BitVec.ofInt k.bits (if k.signed then -1 else k.max) ^^^ BitVec.ofInt k.bits n).toNat))
  | _=>none
 | _=>none
def St.ev (S:St):SX->SV
 | .t n=>S.σ n
 | .c v=>.p v
 | .f id=>.p (.clo id [])
def St.elems (S:St) (sz:Option Nat):SV->Option (Prop × List V)
 | .p (.sl sz' xs)=>some (sz=sz',xs)
 | .own r g off len=>
  match (S.h r).o with
  | some (.arr _ sz' xs)=>some (g=(S.h r).g/\sz=sz'/\off+len<=xs.length,(xs.drop off).take len)
  | _=>none
 | _=>none
def V.byte:V->UInt8
 | .i _ n=>UInt8.ofNat n.toNat
 | _=>0
def bytesV (s:ByteArray):List V:=s.data.toList.map λb=>.i .u8 b.toNat
def lowV (d:Int):Option SV->Option Int
 | none=>some d
 | some (.p (.i _ n))=>some n
 | _=>none
def aop (pd:List Nat) (S:St) (dst:Option Nat):SO->AR
 | .bad=>.stuck
 | .nilFn=>.v True .any none
 | .mv x=>.v True (S.ev x) none
 | .pick c a b=>
  match S.ev c with
  | .p (.b t)=>.v True (if t then S.ev a else S.ev b) none
  | _=>.stuck
 | .box T x=>
  match S.ev x,dst with
  | .p v,some d=>.v True (.ptr d ((S.h d).g+1) 0) (some (d,⟨(S.h d).g+1,some (.box T v.cells)⟩))
  | _,_=>.stuck
 | .alloc T zs=>
  match dst with
  | some d=>.v True (.ptr d ((S.h d).g+1) 0) (some (d,⟨(S.h d).g+1,some (.box T zs)⟩))
  | none=>.stuck
 | .build zs parts=>
  match plains (parts.map λp=>S.ev p.2.2) with
  | some vs=>.v (fillOk (parts.map λp=>(p.1,p.2.1)) vs) (.p (.agg (fillV zs (parts.map λp=>(p.1,p.2.1)) vs))) none
  | none=>.stuck
 | .mkSl T sz parts=>
  match plains (parts.map S.ev),dst with
  | some vs,some d=>
   if pd.contains d then .v (∀ v∈vs,v.fits sz) (.own d ((S.h d).g+1) 0 vs.length) (some (d,⟨(S.h d).g+1,some (.arr T sz vs)⟩))
   else .v (∀ v∈vs,v.fits sz) (.p (.sl sz vs)) none
  | _,_=>.stuck
 | .load sz a=>
  match S.ev a with
  | .p (.ref sz' v)=>.v (sz=sz') (.p v) none
  | .ptr r g j=>
   match (S.h r).o with
   | some (.box _ cs)=>.v (g=(S.h r).g/\partOk cs j sz) (.p (V.part cs j sz)) none
   | some (.arr _ sz' xs)=>.v (g=(S.h r).g/\sz=sz'/\j<xs.length) (.p (xs.getD j default)) none
   | _=>.stuck
  | _=>.stuck
 | .store sz a x=>
  match S.ev a,S.ev x with
  | .ptr r g j,.p v=>
   match (S.h r).o with
   | some (.box T cs)=>.v (g=(S.h r).g/\v.fits sz/\j+v.cells.length<=cs.length) (.tup []) (some (r,⟨g,some (.box T (cs.take j++v.cells++cs.drop (j+v.cells.length)))⟩))
   | some (.arr T sz' xs)=>.v (g=(S.h r).g/\sz=sz'/\v.fits sz/\j<xs.length) (.tup []) (some (r,⟨g,some (.arr T sz' (xs.set j v))⟩))
   | _=>.stuck
  | _,_=>.stuck
 | .bin op x y=>
  match S.ev x,S.ev y with
  | .p a,.p b=>match abin op a b with | some (c,v)=>.v c (.p v) none | none=>.stuck
  | _,_=>.stuck
 | .eqb neg x y=>
  match S.ev x,S.ev y with
  | .p (.b a),.p (.b b)=>.v True (.p (.b (if neg then a != b else a == b))) none
  | _,_=>.stuck
 | .un op x=>
  match S.ev x with
  | .p a=>match aun op a with | some v=>.v True (.p v) none | none=>.stuck
  | _=>.stuck
 | .conv k x=>
  match S.ev x with
  | .p (.i _ n)=>.v True (.p (.i k (k.wrap n))) none
  | _=>.stuck
 | .s2b x=>
  match S.ev x with
  | .p (.s s)=>.v (s.size<=2^62) (.p (.sl none (bytesV s))) none
  | _=>.stuck
 | .b2s x=>
  match S.elems none (S.ev x) with
  | some (c,xs)=>.v (c/\∃ l:List UInt8,xs=l.map λb=>V.i .u8 b.toNat) (.p (.s ⟨(xs.map V.byte).toArray⟩)) none
  | none=>.stuck
 | .makeFn f caps=>
  match plains (caps.map S.ev) with
  | some vs=>.v True (.p (.clo f vs)) none
  | none=>.stuck
 | .makeB f x=>
  match S.ev x with
  | .ptr r g j=>.v (g=(S.h r).g/\j=0) (.bnd f r g) none
  | _=>.stuck
 | .make T sz z bytes l=>
  match S.ev l,dst with
  | .p (.i _ n),some d=>
   if pd.contains d then .v (0<=n/\n*bytes<=2^47/\n<=2^47) (.p (.sl sz (List.replicate n.toNat z))) none
   else .v (0<=n/\n*bytes<=2^47/\n<=2^47) (.own d ((S.h d).g+1) 0 n.toNat) (some (d,⟨(S.h d).g+1,some (.arr T sz (List.replicate n.toNat z))⟩))
  | _,_=>.stuck
 | .slice sz x lo hi=>
  match S.ev x with
  | .p (.sl sz' xs)=>
   match lowV 0 (lo.map S.ev),lowV xs.length (hi.map S.ev) with
   | some l,some h=>.v (sz=some sz'/\0<=l/\l<=h/\h<=xs.length) (.p (.sl sz' ((xs.take h.toNat).drop l.toNat))) none
   | _,_=>.stuck
  | .p (.s s)=>
   match lowV 0 (lo.map S.ev),lowV s.size (hi.map S.ev) with
   | some l,some h=>.v (sz=none/\0<=l/\l<=h/\h<=s.size) (.p (.s (s.extract l.toNat h.toNat))) none
   | _,_=>.stuck
  | .own r g off len=>
   match (S.h r).o,lowV 0 (lo.map S.ev),lowV len (hi.map S.ev) with
   | some (.arr _ sz' _),some l,some h=>.v (g=(S.h r).g/\sz=some sz'/\0<=l/\l<=h/\h<=len) (.own r g (off+l.toNat) (h.toNat-l.toNat)) none
   | _,_,_=>.stuck
  | _=>.stuck
 | .fieldAddr off sz a=>
  match S.ev a with
  | .ptr r g j=>
   match (S.h r).o with
   | some (.box _ _)=>.v (g=(S.h r).g) (.ptr r g (j+off)) none
   | _=>.stuck
  | .p (.ref (some _) v)=>.v (v.isAgg=true/\partOk v.cells off sz) (.p (.ref sz (V.part v.cells off sz))) none
  | _=>.stuck
 | .field off sz x=>
  match S.ev x with
  | .p v=>.v (v.isAgg=true/\partOk v.cells off sz) (.p (V.part v.cells off sz)) none
  | _=>.stuck
 | .indexAddr sz x i=>
  match S.ev x,S.ev i with
  | .p (.sl sz' xs),.p (.i _ n)=>.v (sz=sz'/\0<=n/\n<xs.length) (.p (.ref sz (xs.getD n.toNat default))) none
  | .own r g off len,.p (.i _ n)=>
   match (S.h r).o with
   | some (.arr _ sz' xs)=>.v (g=(S.h r).g/\sz=sz'/\0<=n/\n<len) (.ptr r g (off+n.toNat)) none
   | _=>.stuck
  | _,_=>.stuck
 | .index x i=>
  match S.ev x,S.ev i with
  | .p (.s s),.p (.i _ n)=>.v (0<=n/\n<s.size) (.p (.i .u8 ((s.data.toList.getD n.toNat 0).toNat:Nat))) none
  | _,_=>.stuck
 | .extract x j=>
  match S.ev x with
  | .tup vs=>.v (j<vs.length) (vs.getD j .any) none
  | _=>.stuck
 | .nilCheck x=>
  match S.ev x with
  | .ptr r g j=>.v (g=(S.h r).g) (.ptr r g j) none
  | .p (.ref sz v)=>.v True (.p (.ref sz v)) none
  | .p (.clo f c)=>.v True (.p (.clo f c)) none
  | _=>.stuck
 | .call f args=>
  match S.ev f,plains (args.map S.ev) with
  | .p (.clo id caps),some vs=>.call id (vs++caps)
  | .p (.clo id caps),none=>
   match args.map S.ev with
   | .own r g off len::rest=>
    match (S.h r).o,plains rest with
    | some (.arr T sz xs),some vs=>.callG id (g=(S.h r).g/\off=0/\len=xs.length) r (.arr T sz xs) (vs++caps)
    | _,_=>.stuck
   | .ptr r g j::rest=>
    match (S.h r).o,plains rest with
    | some (.box T cs),some vs=>.callG id (g=(S.h r).g/\j=0) r (.box T cs) (vs++caps)
    | _,_=>.stuck
   | _=>.stuck
  | .bnd id r g,some vs=>
   match (S.h r).o with
   | some (.box T cs)=>.callG id (g=(S.h r).g) r (.box T cs) vs
   | _=>.stuck
  | _,_=>.stuck
 | .len str x=>
  match S.ev x with
  | .p (.sl _ xs)=>.v (str=false) (.p (.i .i64 xs.length)) none
  | .p (.s s)=>.v (str=true) (.p (.i .i64 s.size)) none
  | .own r g off len=>.v (str=false/\g=(S.h r).g) (.p (.i .i64 len)) none
  | _=>.stuck
 | .append T sz bytes x y=>
  match S.ev x,S.elems sz (S.ev y),dst with
  | .own r g off len,some (c,ys),some d=>
   match (S.h r).o with
   | some (.arr T' sz' xs)=>
    if pd.contains d then .v (c/\g=(S.h r).g/\off=0/\T'=T/\sz'=sz/\len<=xs.length/\(len+ys.length)*bytes<=2^47/\len+ys.length<=2^47) (.p (.sl sz (xs.take len++ys))) (some (r,⟨g+1,none⟩))
    else .v (c/\g=(S.h r).g/\off=0/\T'=T/\sz'=sz/\len<=xs.length/\(len+ys.length)*bytes<=2^47/\len+ys.length<=2^47) (.own r (g+1) 0 (len+ys.length)) (some (r,⟨g+1,some (.arr T sz (xs.take len++ys))⟩))
   | _=>.stuck
  | _,_,_=>.stuck
 | .appendZ T sz z bytes x l=>
  match S.ev x,S.ev l,dst with
  | .own r g off len,.p (.i _ m),some d=>
   match (S.h r).o with
   | some (.arr T' sz' xs)=>
    if pd.contains d then .v (0<=m/\g=(S.h r).g/\off=0/\T'=T/\sz'=sz/\len<=xs.length/\(len+m.toNat)*bytes<=2^47/\len+m.toNat<=2^47) (.p (.sl sz (xs.take len++List.replicate m.toNat z))) (some (r,⟨g+1,none⟩))
    else .v (0<=m/\g=(S.h r).g/\off=0/\T'=T/\sz'=sz/\len<=xs.length/\(len+m.toNat)*bytes<=2^47/\len+m.toNat<=2^47) (.own r (g+1) 0 (len+m.toNat)) (some (r,⟨g+1,some (.arr T sz (xs.take len++List.replicate m.toNat z))⟩))
   | _=>.stuck
  | _,_,_=>.stuck
 | .copy sz x y=>
  match S.ev x,S.elems sz (S.ev y) with
  | .own r g off len,some (c,ys)=>
   match (S.h r).o with
   | some (.arr T' sz' xs)=>
    .v (c/\g=(S.h r).g/\sz'=sz/\off+len<=xs.length) (.p (.i .i64 ((min ys.length len:Nat):Int)))
     (some (r,⟨g,some (.arr T' sz (xs.take off++ys.take (min ys.length len)++xs.drop (off+min ys.length len)))⟩))
   | _=>.stuck
  | _,_=>.stuck
 | .mm isMax x y=>
  match S.ev x,S.ev y with
  | .p (.i k a),.p (.i k' b)=>.v True (.p (.i k (if isMax then (if b>a then b else a) else (if b<a then b else a)))) none
  | _,_=>.stuck
 | .nilSl T sz=>
  match dst with
  | some d=>
   if pd.contains d then .v True (.own d ((S.h d).g+1) 0 0) (some (d,⟨(S.h d).g+1,some (.arr T sz [])⟩))
   else .v True (.p (.sl sz [])) none
  | none=>.stuck
 | .isNil neg x=>
  match S.ev x with
  | .p (.sl _ (_::_))=>.v True (.p (.b neg)) none
  | .p (.sl _ [])=>.v True .bool none
  | _=>.stuck
inductive RV where
 | pure (v:V)
 | own (T:TypeId) (sz:Option Nat) (xs:List V)
def RV.isOwn:RV->Bool
 | .own _ _ _=>true
 | _=>false
def ArgRel (w:World) (ok:Nat->Prop) (args:List V) (vals:Array Value):Prop:=
 vals.size=args.length/\∀ j (h:j<args.length),RelV w ok (args[j]) (vals.getD j undef)
def okR (ok:Nat->Prop) (w w':World) (rvs:List RV) (vals:List Value) (b:Nat):Prop:=
 (ok b\/w.heap.size<=b)/\b<w'.heap.size/\∀ j rv,rvs[j]? =some rv->rv.isOwn=true->blk (vals.getD j undef)≠some b
def RelRV (w':World) (ok:Nat->Prop) (B:Nat->Prop) (rv:RV) (val:Value):Prop:=
 match rv with
 | .pure v=>RelV w' ok v val
 | .own T sz xs=>RelObj w' ok B val (.arr T sz xs)
structure RetOK (w w':World) (ok:Nat->Prop) (rvs:List RV) (vals:List Value):Prop where
 len:vals.length=rvs.length
 rel:∀ j rv,rvs[j]? =some rv->RelRV w' (okR ok w w' rvs vals) (w.heap.size<=·) rv (vals.getD j undef)
 apart:∀ j k a c b,rvs[j]? =some a->rvs[k]? =some c->a.isOwn=true->c.isOwn=true->blk (vals.getD j undef)=some b->blk (vals.getD k undef)=some b->j=k
def packed (vals:List Value):Value:=match vals with | [v]=>v | vs=>.tuple vs.toArray
def CallsX (P:Program) (f:FuncId) (vals:Array Value) (w:World) (R:Ending->World->Prop):Prop:=
 ((callFunc f vals).run P w= .ok (.enter f vals) w/\Calls P f vals w R)\/∃ v,(callFunc f vals).run P w= .ok (.value v) w/\R (.returned v) w
theorem CallsX.mono {P:Program} {f:FuncId} {vals:Array Value} {w:World} {R R':Ending->World->Prop} (h:CallsX P f vals w R) (hr:∀ e w',R e w'->R' e w'):CallsX P f vals w R':=by
 rcases h with ⟨h1,h2⟩ | ⟨v,h1,h2⟩
 . exact .inl ⟨h1,h2.mono hr⟩
 . exact .inr ⟨v,h1,hr _ _ h2⟩
def Spec (P:Program) (f:FuncId) (args:List V) (R:List RV->Prop):Prop:=
 ∀ (w:World) (ok:Nat->Prop) (vals:Array Value),(∀ b,ok b->b<w.heap.size)->ArgRel w ok args vals->
  CallsX P f vals w λe w'=>∃ rvs vs,R rvs/\e= .returned (packed vs)/\Below w.heap.size w w'/\RetOK w w' ok rvs vs
theorem Spec.mono {P:Program} {f:FuncId} {args:List V} {R R':List RV->Prop} (h:Spec P f args R) (hr:∀ r,R r->R' r):Spec P f args R':=
 λw ok vals h1 h2=>(h w ok vals h1 h2).mono λ_ _ ⟨rvs,vs,a,b⟩=>⟨rvs,vs,hr _ a,b⟩
inductive GV where
 | pure (v:V)
 | sub (off len:Nat)
def V.scalar:V->Bool
 | .b _=>true
 | .i _ _=>true
 | .s _=>true
 | _=>false
def okG (ok:Nat->Prop) (w w':World) (base:Value) (b:Nat):Prop:=(ok b\/w.heap.size<=b)/\b<w'.heap.size/\blk base≠some b
structure BelowG (base:Value) (w w':World):Prop where
 os:w'.os=w.os
 tape:w'.tape=w.tape
 output:w'.output=w.output
 size:w.heap.size<=w'.heap.size
 block:∀ k,k<w.heap.size->blk base≠some k->w'.heap[k]? =w.heap[k]?
def RelGV (base:Value) (wd:Nat) (gv:GV) (val:Value):Prop:=
 match gv with
 | .pure v=>∀ (w:World) (ok:Nat->Prop),RelV w ok v val
 | .sub off len=>SubOf base wd off len val
def SpecG (P:Program) (f:FuncId) (o:HObj) (args:List V) (R:HObj->List GV->Prop):Prop:=
 ∀ (w:World) (ok:Nat->Prop) (base:Value) (vals:Array Value),(∀ b,ok b->b<w.heap.size)->RelObj w ok (λ_=>True) base o->(∀ b,blk base=some b->¬ ok b)->ArgRel w ok args vals->
  CallsX P f (#[base]++vals) w λe w'=>∃ o' gvs vs,R o' gvs/\o'.width=o.width/\e= .returned (packed vs)/\BelowG base w w'/\RelObj w' (okG ok w w' base) (λ_=>True) base o'/\
   vs.length=gvs.length/\∀ j gv,gvs[j]? =some gv->RelGV base o.width gv (vs.getD j undef)
def gvSV (r g:Nat):GV->SV
 | .pure v=>.p v
 | .sub off len=>.own r g off len
def gsSV (r g:Nat):List GV->SV
 | [x]=>gvSV r g x
 | xs=>.tup (xs.map (gvSV r g))
def St.giv (S:St) (dst:Option Nat) (r:Nat) (o':HObj) (gvs:List GV):St:=(S.heap (some (r,⟨(S.h r).g,some o'⟩))).put dst (gsSV r (S.h r).g gvs)
def ownAt (rvs:List RV) (j:Nat):Bool:=match rvs[j]? with | some rv=>rv.isOwn | none=>false
theorem ownAt_true {rvs:List RV} {j:Nat} (h:ownAt rvs j=true):∃ T sz xs,rvs[j]? =some (.own T sz xs):=by
 unfold ownAt at h;split at h
 . rename_i rv hr;cases rv with
   | pure v=>cases h
   | own T sz xs=>exact ⟨T,sz,xs,hr⟩
 . cases h
def ownIdx (d:Nat) (rvs:List RV) (k:Nat):Option Nat:=
 if d<=k/\(k-d)%1000=0/\ownAt rvs ((k-d) / 1000)=true then some ((k-d) / 1000) else none
def retH (h:Nat->HC) (d:Nat) (rvs:List RV) (k:Nat):HC:=
 match ownIdx d rvs k with
 | some j=>match rvs[j]? with
  | some (.own T sz xs)=>⟨(h k).g+1,some (.arr T sz xs)⟩
  | _=>h k
 | none=>h k
def svOf (h:Nat->HC) (d j:Nat):RV->SV
 | .pure v=>.p v
 | .own T sz xs=>.own (d+1000*j) ((h (d+1000*j)).g+1) 0 xs.length
def svsOf (h:Nat->HC) (d:Nat):Nat->List RV->List SV
 | _,[]=>[]
 | j,rv::rest=>svOf h d j rv::svsOf h d (j+1) rest
theorem svsOf_length (h:Nat->HC) (d:Nat):∀ (rvs:List RV) (j:Nat),(svsOf h d j rvs).length=rvs.length
 | [],_=>rfl
 | rv::rest,j=>by simp [svsOf,svsOf_length h d rest]
theorem svsOf_get' (h:Nat->HC) (d:Nat):∀ (rvs:List RV) (j i:Nat) (hi:i<rvs.length),(svsOf h d j rvs)[i]'(by rw [svsOf_length]; exact hi)=svOf h d (j+i) (rvs[i])
 | rv::rest,j,0,_=>rfl
 | rv::rest,j,i+1,hi=>by
  have:=svsOf_get' h d rest (j+1) i (by simpa using hi);simp only [svsOf,List.getElem_cons_succ,this];congr 1; omega
theorem svsOf_get (h:Nat->HC) (d:Nat) (rvs:List RV) (i:Nat) (h':i<(svsOf h d 0 rvs).length) (hi:i<rvs.length):(svsOf h d 0 rvs)[i]=svOf h d i (rvs[i]):=by
 rw [svsOf_get' h d rvs 0 i hi]; simp
def retSV (h:Nat->HC) (d:Nat):List RV->SV
 | [rv]=>svOf h d 0 rv
 | rvs=>.tup (svsOf h d 0 rvs)
def St.ret (S:St) (dst:Option Nat) (rvs:List RV):St:=
 match dst with
 | none=>S
 | some d=>⟨upd S.σ d (retSV S.h d rvs),retH S.h d rvs⟩
def SV.cell:SV->Bool
 | .p v=> !v.isAgg
 | .own _ _ _ _=>true
 | .nil=>true
 | _=>false
def SV.solid:SV->Bool
 | .p _=>true
 | .agg _=>true
 | .own _ _ _ _=>true
 | .nil=>true
 | _=>false
def svCells:SV->List SV
 | .agg cs=>cs
 | .p v=>v.cells.map .p
 | x=>[x]
def svFits (sz:Option Nat) (x:SV):Prop:=
 match sz with
 | none=>x.cell=true
 | some n=>match x with
  | .agg cs=>cs.length=n
  | .p v=>v.isAgg=true/\v.cells.length=n
  | _=>False
def svPack (cs:List SV):SV:=match plains cs with | some vs=>.p (.agg vs) | none=>.agg cs
def svPart (cs:List SV) (off:Nat):Option Nat->SV
 | none=>cs.getD off default
 | some n=>svPack ((cs.drop off).take n)
def partOkS (cs:List SV) (off:Nat):Option Nat->Prop
 | none=>off<cs.length
 | some n=>off+n<=cs.length
def nilZ:V->SV
 | .sl _ []=>.nil
 | v=>.p v
def fillS (zs:List SV):List (Nat × Nat)->List SV->List SV
 | (off,n)::ps,v::vs=>fillS (zs.take off++svCells v++zs.drop (off+n)) ps vs
 | _,_=>zs
def fillOkS:List (Nat × Nat)->List SV->Prop
 | (_,n)::ps,v::vs=>(svCells v).length=n/\v.solid=true/\fillOkS ps vs
 | [],[]=>True
 | _,_=>False
def St.evN (S:St):SX->SV
 | .c (.sl _ [])=>.nil
 | x=>S.ev x
def cloC (r:Nat) (xs:List SV):Prop:=1000<=r->∀ x∈xs,∀ q∈svref x,1000<=q
def St.elemsS (S:St):SV->Option (Prop × List SV)
 | .p (.sl sz xs)=>some (sz=none,xs.map .p)
 | .own r g off len=>
  match (S.h r).o with
  | some (.rows _ xs)=>some (g=(S.h r).g/\off+len<=xs.length,(xs.drop off).take len)
  | _=>none
 | _=>none
def aopX (S:St) (dst:Option Nat):SO->AR
 | .mkSl T sz parts=>
  match dst with
  | some d=>.v (sz=none/\(∀ x∈parts.map S.ev,x.cell=true)/\cloC d (parts.map S.ev)) (.own d ((S.h d).g+1) 0 parts.length) (some (d,⟨(S.h d).g+1,some (.rows T (parts.map S.ev))⟩))
  | none=>.stuck
 | .box T x=>
  match S.ev x,dst with
  | .agg cs,some d=>.v (cloC d cs) (.ptr d ((S.h d).g+1) 0) (some (d,⟨(S.h d).g+1,some (.sbox T cs)⟩))
  | _,_=>.stuck
 | .build zs parts=>.v (fillOkS (parts.map λp=>(p.1,p.2.1)) (parts.map λp=>S.evN p.2.2)) (.agg (fillS (zs.map nilZ) (parts.map λp=>(p.1,p.2.1)) (parts.map λp=>S.evN p.2.2))) none
 | .load sz a=>
  match S.ev a with
  | .ptr r g j=>
   match (S.h r).o with
   | some (.rows _ xs)=>.v (g=(S.h r).g/\sz=none/\j<xs.length) (xs.getD j default) none
   | some (.sbox _ cs)=>.v (g=(S.h r).g/\partOkS cs j sz) (svPart cs j sz) none
   | _=>.stuck
  | _=>.stuck
 | .store sz a x=>
  match S.ev a with
  | .ptr r g j=>
   match (S.h r).o with
   | some (.rows T xs)=>.v (g=(S.h r).g/\sz=none/\(S.ev x).cell=true/\j<xs.length/\cloC r [S.ev x]) (.tup []) (some (r,⟨g,some (.rows T (xs.set j (S.ev x)))⟩))
   | some (.sbox T cs)=>.v (g=(S.h r).g/\svFits sz (S.ev x)/\j+(svCells (S.ev x)).length<=cs.length/\cloC r (svCells (S.ev x))) (.tup []) (some (r,⟨g,some (.sbox T (cs.take j++svCells (S.ev x)++cs.drop (j+(svCells (S.ev x)).length)))⟩))
   | some (.box T cs)=>.v (g=(S.h r).g/\svFits sz (S.ev x)/\j+(svCells (S.ev x)).length<=cs.length/\cloC r (svCells (S.ev x))) (.tup []) (some (r,⟨g,some (.sbox T ((cs.map .p).take j++svCells (S.ev x)++(cs.map .p).drop (j+(svCells (S.ev x)).length)))⟩))
   | _=>.stuck
  | _=>.stuck
 | .append T sz bytes x y=>
  match S.ev x,S.elemsS (S.ev y) with
  | .own r g off len,some (c,ys)=>
   match (S.h r).o with
   | some (.rows T' xs)=>.v (c/\sz=none/\g=(S.h r).g/\off=0/\T'=T/\len<=xs.length/\(len+ys.length)*bytes<=2^47/\len+ys.length<=2^47/\cloC r ys) (.own r (g+1) 0 (len+ys.length)) (some (r,⟨g+1,some (.rows T (xs.take len++ys))⟩))
   | some (.arr T' sz' xs)=>.v (c/\sz=none/\sz'=none/\g=(S.h r).g/\off=0/\T'=T/\len<=xs.length/\(len+ys.length)*bytes<=2^47/\len+ys.length<=2^47/\cloC r ys) (.own r (g+1) 0 (len+ys.length)) (some (r,⟨g+1,some (.rows T ((xs.map .p).take len++ys))⟩))
   | _=>.stuck
  | _,_=>.stuck
 | .slice sz x lo hi=>
  match S.ev x,lowV 0 (lo.map S.ev) with
  | .own r g off len,some l=>
   match (S.h r).o,lowV len (hi.map S.ev) with
   | some (.rows _ _),some h=>.v (g=(S.h r).g/\sz=some none/\0<=l/\l<=h/\h<=len) (.own r g (off+l.toNat) (h.toNat-l.toNat)) none
   | _,_=>.stuck
  | _,_=>.stuck
 | .fieldAddr off sz a=>
  match S.ev a with
  | .ptr r g j=>
   match (S.h r).o with
   | some (.sbox _ _)=>.v (g=(S.h r).g) (.ptr r g (j+off)) none
   | _=>.stuck
  | _=>.stuck
 | .field off sz x=>
  match S.ev x with
  | .agg cs=>.v (partOkS cs off sz) (svPart cs off sz) none
  | _=>.stuck
 | .indexAddr sz x i=>
  match S.ev x,S.ev i with
  | .own r g off len,.p (.i _ n)=>
   match (S.h r).o with
   | some (.rows _ xs)=>.v (g=(S.h r).g/\sz=none/\0<=n/\n<len) (.ptr r g (off+n.toNat)) none
   | _=>.stuck
  | _,_=>.stuck
 | _=>.stuck
structure BelowH (B:Nat->Prop) (w w':World):Prop where
 os:w'.os=w.os
 tape:w'.tape=w.tape
 output:w'.output=w.output
 size:w.heap.size<=w'.heap.size
 block:∀ k,¬ B k->w'.heap[k]? =w.heap[k]?
def SpecH (P:Program) (f:FuncId) (h:Nat->HC) (args:List SV) (R:(Nat->HC)->List SV->Prop):Prop:=
 ∀ (A:Nat->Prop) (w0:Base) (w:World) (μ:Nat->Value) (vals:Array Value),HeapOK A w w0 μ h->(∀ b,w0.B b->A b)->w0.w.heap.size<=w.heap.size->vals.size=args.length->
  (∀ j (hj:j<args.length),RelS w (okOf A w μ h) μ h (args[j]) (vals.getD j undef))->
  CallsX P f vals w λe w'=>∃ h' svs vs μ',R h' svs/\e= .returned (packed vs)/\HeapOK A w' w0 μ' h'/\Keeps A w μ h w' μ' h'/\BelowH w0.B w w'/\vs.length=svs.length/\
   ∀ j (hj:j<svs.length),RelS w' (okOf A w' μ' h') μ' h' (svs[j]) (vs.getD j undef)
def patch (h:Nat->HC) (δ:List (Nat × HC)):Nat->HC:=δ.foldl (λh x=>upd h x.1 x.2) h
def FrH (P:Program) (f:FuncId) (h:Nat->HC) (fp:List Nat) (args:List SV) (R:List (Nat × HC)->List SV->Prop):Prop:=
 ∀ h2,(∀ r∈fp,h2 r=h r)->SpecH P f h2 args λh' svs=>∃ δ,R δ svs/\(∀ x∈δ,x.1∈fp)/\h'=patch h2 δ
def packSV:List SV->SV
 | [x]=>x
 | xs=>.tup xs
def HCall (P:Program) (f:FuncId) (args:List SV) (K:St->Prop) (S:St) (dst:Option Nat):Prop:=
 ∃ fp R,(∀ x∈args,∀ r∈svref x,r∈fp)/\FrH P f S.h fp args R/\∀ δ svs,R δ svs->(∀ x∈δ,x.1∈fp)->K ((⟨S.σ,patch S.h δ⟩:St).put dst (packSV svs))
def XCore (P:Program) (dst:Option Nat) (op:SO) (K:St->Prop) (S:St):Prop:=
 match op with
 | .call f as=>match S.ev f with
  | .p (.clo id caps)=>HCall P id (as.map S.ev++caps.map .p) K S dst
  | _=>False
 | op=>match aopX S dst op with
  | .v c x δ=>c/\K ((S.heap δ).put dst x)
  | _=>False
def ACore (P:Program) (pd:List Nat) (dst:Option Nat) (op:SO) (K:St->Prop) (S:St):Prop:=
 match aop pd S dst op with
 | .v c x δ=>c/\K ((S.heap δ).put dst x)
 | .call f args=>(∃ R,Spec P f args R/\∀ rvs,R rvs->K (S.ret dst rvs))\/XCore P dst op K S
 | .callG f c r o args=>c/\((∃ R,SpecG P f o args R/\∀ o' gvs,R o' gvs->K (S.giv dst r o' gvs))\/XCore P dst op K S)
 | .stuck=>XCore P dst op K S
def AOp (P:Program) (pd:List Nat) (o:SOp) (K:St->Prop) (S:St):Prop:=
 match o.guard with
 | none=>ACore P pd o.dst o.op K S
 | some (g,want)=>
  match S.σ g with
  | .p (.b c)=>(c=want->ACore P pd o.dst o.op K S)/\(c= !want->K (S.put o.dst (.tup [])))
  | .p (.i _ _) | .tup _=>K (S.put o.dst (.tup []))
  | _=>False
def RunL (P:Program) (pd:List Nat) (Q:St->Prop):List SOp->St->Prop
 | [],S=>Q S
 | o::rest,S=>AOp P pd o (RunL P pd Q rest) S
end Go.Vw
namespace Go.Vw
open Go.RowKit (Below)
theorem RelV.value {w:World} {ok:Nat->Prop} {v:V} {val:Value} (h:RelV w ok v val):
 (v.isAgg=false/\val.oneCell'=true/\v.cells=[v])\/(∃ cs vals,v= .agg cs/\val= .agg vals/\vals.size=cs.length/\∀ c∈vals,c.oneCell'=true):=by
 cases h<;>simp_all [V.isAgg,V.cells,Value.oneCell']
theorem RelV.shape {w:World} {ok:Nat->Prop} {v:V} {val:Value} {sz:Option Nat} (h:RelV w ok v val) (hf:v.fits sz):Shape sz val:=by
 rcases h.value with ⟨h1,h2,h3⟩ | ⟨cs,vals,rfl,rfl,h2,h3⟩
 . cases sz with
   | none=>exact h2
   | some n=>simp [V.fits,h1] at hf
 . cases sz with
   | none=>simp [V.fits,V.isAgg] at hf
   | some n=>exact ⟨vals,rfl,by simp [V.fits,V.cells] at hf; omega,h3⟩
theorem RelFlat.nil {w:World} {ok:Nat->Prop} (sz:Option Nat):RelFlat w ok sz [] []:=⟨[],rfl,by simp,by simp,rfl⟩
theorem flat_length {sz:Option Nat}:∀ {vals:List Value},(∀ v∈vals,Shape sz v)->(vals.flatMap (·.cells.toList)).length=vals.length*width sz
 | [],_=>by simp
 | v::r,h=>by
  have h1:=(h v (by simp)).list;have ih:=flat_length (vals:=r) λx hx=>h x (by simp [hx]);simp only [List.flatMap_cons,List.length_append,List.length_cons,ih,h1,Nat.add_mul];omega
theorem RelFlat.length {w:World} {ok:Nat->Prop} {sz:Option Nat} {xs:List V} {flat:List Value} (h:RelFlat w ok sz xs flat):flat.length=xs.length*width sz:=by
 obtain ⟨vals,h1,h2,h3,rfl⟩:=h;rw [flat_length h3,h1]
theorem RelFlat.append {w:World} {ok:Nat->Prop} {sz:Option Nat} {xs ys:List V} {f g:List Value} (h:RelFlat w ok sz xs f) (k:RelFlat w ok sz ys g):
 RelFlat w ok sz (xs++ys) (f++g):=by
 obtain ⟨a,h1,h2,h3,rfl⟩:=h;obtain ⟨b,k1,k2,k3,rfl⟩:=k;refine ⟨a++b,by simp [h1,k1],λj hj=>?_,λv hv=>?_,by simp⟩
 . by_cases hlt:j<xs.length
   . have:=h2 j hlt;rw [List.getElem_append_left hlt]
     simpa [List.getD,List.getElem?_append_left (h1 ▸ hlt:j<a.length)] using this
   . have hj':j-xs.length<ys.length:=by simp at hj; omega
     have:=k2 (j-xs.length) hj';rw [List.getElem_append_right (by omega)]
     simpa [List.getD,List.getElem?_append_right (by omega:a.length<=j),h1] using this
 . rcases List.mem_append.1 hv with h | h
   . exact h3 v h
   . exact k3 v h
theorem flat_take {sz:Option Nat}:∀ {vals:List Value} (k:Nat),(∀ v∈vals,Shape sz v)->((vals.take k).flatMap (·.cells.toList))=(vals.flatMap (·.cells.toList)).take (k*width sz)
 | [],k,_=>by simp
 | v::r,0,h=>by simp
 | v::r,k+1,h=>by
  have h1:=(h v (by simp)).list;have ih:=flat_take (vals:=r) k λx hx=>h x (by simp [hx]);have e1:v.cells.toList.take ((k+1)*width sz)=v.cells.toList:=List.take_of_length_le (by rw [h1,Nat.add_mul]; omega);have e2:(k+1)*width sz-width sz=k*width sz:=by rw [Nat.add_mul]; omega
  simp only [List.take_succ_cons,List.flatMap_cons,ih,List.take_append,h1,e1,e2]
theorem flat_drop {sz:Option Nat}:∀ {vals:List Value} (k:Nat),(∀ v∈vals,Shape sz v)->((vals.drop k).flatMap (·.cells.toList))=(vals.flatMap (·.cells.toList)).drop (k*width sz)
 | [],k,_=>by simp
 | v::r,0,h=>by simp
 | v::r,k+1,h=>by
  have h1:=(h v (by simp)).list;have ih:=flat_drop (vals:=r) k λx hx=>h x (by simp [hx]);have e1:v.cells.toList.drop ((k+1)*width sz)=[]:=List.drop_of_length_le (by rw [h1,Nat.add_mul]; omega);have e2:(k+1)*width sz-width sz=k*width sz:=by rw [Nat.add_mul]; omega
  simp only [List.drop_succ_cons,List.flatMap_cons,ih,List.drop_append,h1,e1,e2,List.nil_append]
theorem RelFlat.take {w:World} {ok:Nat->Prop} {sz:Option Nat} {xs:List V} {f:List Value} (h:RelFlat w ok sz xs f) (k:Nat):
 RelFlat w ok sz (xs.take k) (f.take (k*width sz)):=by
 obtain ⟨a,h1,h2,h3,rfl⟩:=h;refine ⟨a.take k,by simp [h1],λj hj=>?_,λv hv=>h3 v (List.mem_of_mem_take hv),(flat_take k h3).symm⟩;have hj':j<k/\j<xs.length:=by simp at hj; omega
 have:=h2 j hj'.2
 simpa [List.getD,List.getElem?_take,hj'.1] using this
theorem RelFlat.drop {w:World} {ok:Nat->Prop} {sz:Option Nat} {xs:List V} {f:List Value} (h:RelFlat w ok sz xs f) (k:Nat):
 RelFlat w ok sz (xs.drop k) (f.drop (k*width sz)):=by
 obtain ⟨a,h1,h2,h3,rfl⟩:=h;refine ⟨a.drop k,by simp [h1],λj hj=>?_,λv hv=>h3 v (List.mem_of_mem_drop hv),(flat_drop k h3).symm⟩;have hj':k+j<xs.length:=by simp at hj; omega
 have:=h2 (k+j) hj'
 simpa [List.getD,List.getElem?_drop] using this
theorem RelFlat.one {w:World} {ok:Nat->Prop} {sz:Option Nat} {v:V} {val:Value} (h:RelV w ok v val) (hs:Shape sz val):RelFlat w ok sz [v] val.cells.toList:=
 ⟨[val],rfl,λj hj=>by
  have:j=0:=by simp at hj; omega
  subst this; simpa [List.getD] using h,by simpa using hs,by simp⟩
theorem RelFlat.cells {w:World} {ok:Nat->Prop} {v:V} {val:Value} (h:RelV w ok v val):RelFlat w ok none v.cells val.cells.toList:=by
 rcases h.value with ⟨h1,h2,h3⟩ | ⟨cs,vals,rfl,rfl,h2,h3⟩
 . rw [h3]; exact RelFlat.one h h2
 . cases h with
   | agg _ _ hlen hone hrel=>
    refine ⟨vals.toList,by simpa [V.cells] using hlen,λj hj=>?_,λc hc=>h3 c (by simpa using hc),?_⟩
    . have:=hrel j hj;simp only [Array.getD_eq_getD_getElem?] at this;simp only [List.getD,Value.cells,Array.getElem?_toList];exact this
    . simp only [Value.cells];have:∀ l:List Value,(∀ c∈l,c.oneCell'=true)->l=l.flatMap (·.cells.toList):=by
       intro l;induction l with
       | nil=>intro _; rfl
       | cons c r ih=>
        intro hl;have hc:=hl c (by simp);have:c.cells.toList=[c]:=by cases c<;>simp_all [Value.oneCell',Value.cells]
        rw [List.flatMap_cons,this,<-ih λx hx=>hl x (by simp [hx])]; rfl
      exact this _ λc hc=>h3 c (by simpa using hc)
theorem flat_none:∀ l:List Value,(∀ c∈l,c.oneCell'=true)->l.flatMap (·.cells.toList)=l
 | [],_=>rfl
 | c::r,hl=>by
  have hc:=hl c (by simp);have:c.cells.toList=[c]:=by cases c<;>simp_all [Value.oneCell',Value.cells]
  rw [List.flatMap_cons,this,flat_none r λx hx=>hl x (by simp [hx])]; rfl
theorem RelFlat.agg {w:World} {ok:Nat->Prop} {cs:List V} {f:List Value} (h:RelFlat w ok none cs f):RelV w ok (.agg cs) (.agg f.toArray):=by
 obtain ⟨a,h1,h2,h3,rfl⟩:=h;have h3':∀ c∈a,c.oneCell'=true:=λc hc=>h3 c hc;rw [flat_none a h3'];refine .agg cs _ (by simpa using h1) (λc hc=>h3' c (by simpa using hc)) λj hj=>?_
 simpa [Array.getD_eq_getD_getElem?,List.getD] using h2 j hj
theorem RelFlat.ones {w:World} {ok:Nat->Prop} {sz:Option Nat} {xs:List V} {f:List Value} (h:RelFlat w ok sz xs f):∀ c∈f,c.oneCell'=true:=by
 obtain ⟨a,h1,h2,h3,rfl⟩:=h;intro c hc;obtain ⟨v,hv,hc'⟩:=List.mem_flatMap.1 hc;exact (h3 v hv).one c (by simpa using hc')
theorem RelFlat.get {w:World} {ok:Nat->Prop} {sz:Option Nat} {xs:List V} {f:List Value} (h:RelFlat w ok sz xs f) {j:Nat} (hj:j<xs.length):
 ∃ val,RelV w ok (xs[j]) val/\Shape sz val/\∀ i c,val.cells.toList[i]? =some c->f[j*width sz+i]? =some c:=by
 obtain ⟨a,h1,h2,h3,rfl⟩:=h;have hja:j<a.length:=by omega
 refine ⟨a[j],by simpa [List.getD,hja] using h2 j hj,h3 _ (List.getElem_mem hja),λi c hc=>?_⟩;have hd:=flat_drop j h3;have hi:i<a[j].cells.toList.length:=(List.getElem?_eq_some_iff.1 hc).1;have:((a.drop j).flatMap (·.cells.toList))[i]? =some c:=by
  rw [List.drop_eq_getElem_cons hja,List.flatMap_cons,List.getElem?_append_left hi]; exact hc
 rw [hd,List.getElem?_drop] at this;exact this
theorem RelFlat.slice {w:World} {ok:Nat->Prop} {sz:Option Nat} {xs:List V} {f:List Value} (h:RelFlat w ok sz xs f) {g off cap:Nat}
 (hr:w.rangeAt g off f) (hok:ok g) (hcap:xs.length<=cap):RelV w ok (.sl sz xs) (.slice (some ⟨g,off,none⟩) xs.length cap):=by
 obtain ⟨a,h1,h2,h3,rfl⟩:=h;refine .sl sz xs g off xs.length cap (λj=>a.getD j undef) rfl hok hcap h2 (λj hj=>?_) λj hj i c hc=>?_
 . have hja:j<a.length:=by omega
   simpa [List.getD,hja] using h3 _ (List.getElem_mem hja)
 . have hja:j<a.length:=by omega
   have hc':a[j].cells.toList[i]? =some c:=by simpa [List.getD,hja] using hc
   have hd:=flat_drop j h3;have hi:i<a[j].cells.toList.length:=(List.getElem?_eq_some_iff.1 hc').1;have:((a.drop j).flatMap (·.cells.toList))[i]? =some c:=by
    rw [List.drop_eq_getElem_cons hja,List.flatMap_cons,List.getElem?_append_left hi]; exact hc'
   rw [hd,List.getElem?_drop] at this;have:=hr _ _ this
   rwa [show off+j*width sz+i=off+(j*width sz+i) by omega]
theorem RelV.flat {w:World} {ok:Nat->Prop} {sz:Option Nat} {xs:List V} {val:Value} (h:RelV w ok (.sl sz xs) val):
 ∃ f,RelFlat w ok sz xs f/\((∃ a,val= .slice a 0 0/\xs=[])\/∃ g off cap,val= .slice (some ⟨g,off,none⟩) xs.length cap/\ok g/\xs.length<=cap/\w.rangeAt g off f):=by
 cases h with
 | nil=>exact ⟨[],RelFlat.nil sz,.inl ⟨none,rfl,rfl⟩⟩
 | void _ a=>exact ⟨[],RelFlat.nil sz,.inl ⟨some a,rfl,rfl⟩⟩
 | sl _ _ g off len cap val hlen hok hcap hrel hsh hcell=>
  subst hlen;have key:∀ (n:Nat),n<=xs.length->RelFlat w ok sz (xs.take n) (((List.range n).map val).flatMap (·.cells.toList))/\w.rangeAt g off (((List.range n).map val).flatMap (·.cells.toList)):=by
   intro n;induction n with
   | zero=>intro _; exact ⟨by simpa using RelFlat.nil sz,by intro j v hj; simp at hj⟩
   | succ n ih=>
    intro hn;obtain ⟨i1,i2⟩:=ih (by omega);have hone:=RelFlat.one (hrel n (by omega)) (hsh n (by omega));have hlen:=i1.length;rw [List.length_take,Nat.min_eq_left (by omega)] at hlen;rw [List.range_succ,List.map_append,List.flatMap_append,List.map_singleton,List.flatMap_singleton];refine ⟨?_,?_⟩
    . rw [List.take_succ_eq_append_getElem (by omega)];exact i1.append hone
    . intro j v hj;by_cases hlt:j<(((List.range n).map val).flatMap (·.cells.toList)).length
      . rw [List.getElem?_append_left hlt] at hj; exact i2 j v hj
      . rw [List.getElem?_append_right (by omega)] at hj;have:=hcell n (by omega) _ _ hj;rw [hlen] at this hlt
        rwa [show off+n*width sz+(j-n*width sz)=off+j by omega] at this
  obtain ⟨k1,k2⟩:=key xs.length (Nat.le_refl _);rw [List.take_length] at k1;exact ⟨_,k1,.inr ⟨g,off,cap,rfl,hok,hcap,k2⟩⟩
theorem rangeAt_of_row {w:World} {g:Nat} {cur:Array Value} {T:TypeId} {fr:Nat × Nat} (h:w.heap[g]? =some (.cells cur T fr)) (off:Nat) (f:List Value)
 (hf:∀ i c,f[i]? =some c->cur.toList[off+i]? =some c):w.rangeAt g off f:=by
 intro j v hj;have:=hf j v hj;simp only [World.cell?,h]
 simpa using this
theorem width_pos_list {sz:Option Nat} (h:sz≠some 0):0<width sz:=by
 cases sz with
 | none=>simp [width]
 | some n=>simp only [width,Option.getD_some]; have:n≠0:=λe=>h (by rw [e]); omega
end Go.Vw
namespace Go.Vw
open Go.RowKit (Below)
def szOf (P:Program) (T:TypeId):Option (Option Nat):=
 match P.underlying T,P.info? T with
 | some d,some i=>
  match d with
  | .struct _ | .array _ _=>some (some i.size)
  | .bool | .int _ | .string | .pointer _ | .slice _ | .func _ _ _=>if i.size=1 then some none else none
  | _=>none
 | _,_=>none
theorem szOf_spec {P:Program} {T:TypeId} {sz:Option Nat} (h:szOf P T=some sz):
 ∃ d i,P.underlying T=some d/\P.info? T=some i/\i.size=width sz/\d.isRow=sz.isSome:=by
 unfold szOf at h;split at h
 . rename_i d i hd hi;refine ⟨d,i,hd,hi,?_⟩;cases d<;>simp_all [width,TypeDesc.isRow]<;>(try (obtain ⟨h1,h2⟩:=h; subst h2; simp [h1]))<;>(try (subst h; simp))
 . cases h
theorem run_isAgg {P:Program} {T:TypeId} {sz:Option Nat} (h:szOf P T=some sz) (w:World):(isAgg T).run P w= .ok sz.isSome w:=by
 obtain ⟨d,i,hd,hi,h1,h2⟩:=szOf_spec h;unfold isAgg;rw [Sem.run_bind,run_underlying hd w,<-h2];cases d<;>simp [TypeDesc.isRow]
theorem run_sz {P:Program} {T:TypeId} {sz:Option Nat} (h:szOf P T=some sz) (w:World):(sizeOf T).run P w= .ok (width sz) w:=by
 obtain ⟨d,i,hd,hi,h1,h2⟩:=szOf_spec h;simp [sizeOf,typeInfo,hi,h1]
def zeroCells (P:Program):Nat->TypeId->Option (List V)
 | 0,_=>none
 | n+1,T=>
  match P.underlying T with
  | some .bool=>some [.b false]
  | some (.int k)=>some [.i k 0]
  | some .string=>some [.s ByteArray.empty]
  | some (.slice e)=>(szOf P e).map λsz=>[.sl sz []]
  | some (.struct fs)=>fs.toList.foldr (λf acc=>match zeroCells P n f.type,acc with | some a,some b=>some (a++b) | _,_=>none) (some [])
  | _=>none
def zeroFit:Value->V->Bool
 | .bool x,.b y=>x == y
 | .int k n,.i k' n'=>decide (k=k') && decide (n=n')
 | .string s,.s t=>decide (s=t)
 | .slice none 0 0,.sl _ []=>true
 | _,_=>false
theorem zeroFit_rel {v:Value} {x:V} (h:zeroFit v x=true) (w:World) (ok:Nat->Prop):RelV w ok x v/\v.oneCell'=true:=by
 unfold zeroFit at h;split at h
 . simp at h; subst h; exact ⟨.b _,rfl⟩
 . simp at h; obtain ⟨rfl,rfl⟩:=h; exact ⟨.i _ _,rfl⟩
 . simp at h; subst h; exact ⟨.s _,rfl⟩
 . exact ⟨.nil _,rfl⟩
 . cases h
def zerosFit:List Value->List V->Bool
 | [],[]=>true
 | v::vs,x::xs=>zeroFit v x && zerosFit vs xs
 | _,_=>false
theorem zerosFit_rel:∀ {vs:List Value} {xs:List V},zerosFit vs xs=true->∀ (w:World) (ok:Nat->Prop),RelFlat w ok none xs vs
 | [],[],_,w,ok=>RelFlat.nil none
 | v::vs,x::xs,h,w,ok=>by
  simp only [zerosFit,Bool.and_eq_true] at h;obtain ⟨h1,h2⟩:=zeroFit_rel h.1 w ok;have:=(RelFlat.one (sz:=none) h1 h2).append (zerosFit_rel h.2 w ok);have hc:v.cells.toList=[v]:=by cases v<;>simp_all [Value.oneCell',Value.cells]
  rw [hc] at this;exact this
 | [],_::_,h,_,_=>by simp [zerosFit] at h
 | _::_,[],h,_,_=>by simp [zerosFit] at h
def zeroOf (P:Program) (T:TypeId):Option (List V):=
 match P.info? T,zeroCells P 8 T with
 | some i,some cs=>match i.zero with
  | some z=>if zerosFit z.cells.toList cs then some cs else none
  | none=>none
 | _,_=>none
theorem zeroOf_spec {P:Program} {T:TypeId} {cs:List V} (h:zeroOf P T=some cs):
 ∃ i z,P.info? T=some i/\i.zero=some z/\∀ w ok,RelFlat w ok none cs z.cells.toList:=by
 unfold zeroOf at h;split at h
 . rename_i i cs' hi _;split at h
   . rename_i z hz;split at h
     . rename_i hf;simp only [Option.some.injEq] at h; subst h;exact ⟨i,z,hi,hz,zerosFit_rel hf⟩
     . cases h
   . cases h
 . cases h
theorem run_zero {P:Program} {T:TypeId} {i:TypeInfo} {z:Value} (hi:P.info? T=some i) (hz:i.zero=some z) (w:World):(zeroValue T).run P w= .ok z w:=by
 simp [zeroValue,typeInfo,hi,hz]
def zeroV (P:Program) (T:TypeId):Option V:=
 match szOf P T,zeroOf P T with
 | some none,some [v]=>if v.isAgg then none else some v
 | some (some n),some cs=>if cs.length=n then some (.agg cs) else none
 | _,_=>none
theorem zeroV_spec {P:Program} {T:TypeId} {v:V} (h:zeroV P T=some v):
 ∃ sz i z z',szOf P T=some sz/\P.info? T=some i/\i.zero=some z/\z'.cells=z.cells/\Shape sz z'/\∀ w ok,RelV w ok v z':=by
 unfold zeroV at h;split at h
 . rename_i v' hs hz;split at h
   . cases h
   . rename_i hagg;simp only [Option.some.injEq] at h; subst h;obtain ⟨i,z,hi,hz',hr⟩:=zeroOf_spec hz;have hl:=(hr default (λ_=>True)).length;have h1:z.cells.size=1:=by simpa [width] using hl
     have hrel:∀ w ok,RelV w ok v' z.cells[0]:=by
      intro w ok;obtain ⟨vals,a1,a2,a3,a4⟩:=hr w ok
      match vals,a1 with
      | [x],_=>
       have hx:x.oneCell'=true:=a3 x (by simp);have hc:x.cells.toList=[x]:=by cases x<;>simp_all [Value.oneCell',Value.cells]
       have:z.cells.toList=[x]:=by rw [a4]; simp [hc]
       have h0:=a2 0 (by simp);have:z.cells[0]=x:=by
        have e:z.cells.toList[0]? =some x:=by rw [this]; rfl
        have e2:z.cells.toList[0]? =some z.cells[0]:=by simp [h1]
        rw [e2] at e; exact Option.some.inj e
       rw [this]; simpa [List.getD] using h0
     have hone:z.cells[0].oneCell'=true:=(hr default (λ_=>True)).ones _ (by simp);refine ⟨none,i,z,z.cells[0],hs,hi,hz',?_,hone,hrel⟩;have:z.cells=#[z.cells[0]]:=by
      apply Array.ext
      . simp [h1]
      . intro j h1' h2';have:j=0:=by simp at h2'; omega
        subst this; rfl
     have hc:z.cells[0].cells=#[z.cells[0]]:=by generalize z.cells[0]=x at *; cases x<;>simp_all [Value.oneCell',Value.cells]
     rw [hc]; exact this.symm
 . rename_i n cs hs hz;split at h
   . rename_i hn;simp only [Option.some.injEq] at h; subst h;obtain ⟨i,z,hi,hz',hr⟩:=zeroOf_spec hz;have hl:=(hr default (λ_=>True)).length;refine ⟨some n,i,z,.agg z.cells,hs,hi,hz',rfl,⟨z.cells,rfl,?_,λc hc=>(hr default (λ_=>True)).ones c (by simpa using hc)⟩,λw ok=>?_⟩
     . simp [width] at hl; omega
     . simpa using (hr w ok).agg
   . cases h
 . cases h
def cst (P:Program) (T:TypeId):Value->Option V
 | .bool x=>some (.b x)
 | .int k n=>some (.i k n)
 | .string s=>some (.s s)
 | .slice none 0 0=>match P.underlying T with | some (.slice e)=>(szOf P e).map λsz=>.sl sz [] | _=>none
 | .agg cells=>match zeroOf P T with | some cs=>if zerosFit cells.toList cs then some (.agg cs) else none | none=>none
 | _=>none
theorem cst_rel {P:Program} {T:TypeId} {v:Value} {x:V} (h:cst P T v=some x) (w:World) (ok:Nat->Prop):RelV w ok x v:=by
 unfold cst at h;split at h
 . simp at h; subst h; exact .b _
 . simp at h; subst h; exact .i _ _
 . simp at h; subst h; exact .s _
 . split at h
   . simp at h; obtain ⟨sz,_,rfl⟩:=h; exact .nil _
   . cases h
 . split at h
   . split at h
     . rename_i hf;simp at h; subst h;have:=(zerosFit_rel hf w ok).agg
       simpa using this
     . cases h
   . cases h
 . cases h
def tsz (P:Program) (T:TypeId):Nat:=((P.info? T).map (·.size)).getD 0
def slimX (P:Program) (T:TypeId):Operand->Option SX
 | .tmp t=>some (.t t)
 | .const v=>(cst P T v).map .c
 | .func f=>some (.f f)
 | .global _=>none
def slimXs (P:Program):List Operand->List TypeId->Option (List SX)
 | [],_=>some []
 | x::xs,ts=>
  match slimX P (ts.headD 0) x,slimXs P xs ts.tail with
  | some a,some b=>some (a::b)
  | _,_=>none
def slimO (P:Program):Option Operand->Option (Option SX)
 | none=>some none
 | some x=>(slimX P 0 x).map some
def slimParts (P:Program) (fs:Array Field):List (Nat × Operand)->Option (List (Nat × Nat × SX))
 | []=>some []
 | (i,x)::rest=>
  match fs[i]? with
  | some f=>
   match szOf P f.type,slimX P f.type x,slimParts P fs rest with
   | some sz,some a,some r=>some ((f.offset,width sz,a)::r)
   | _,_,_=>none
  | none=>none
def inRow:Nat->List (Nat × Operand)->Bool
 | _,[]=>true
 | k,(i,_)::rest=>i == k && inRow (k+1) rest
def sameOpd:Operand->Operand->Bool
 | .tmp a,.tmp b=>a == b
 | .const (.int _ a),.const (.int _ b)=>a == b
 | _,_=>false
def slimCall (P:Program) (o:Oper) (c:Call):Option SO:=
 match c.callee with
 | .value f=>
  match slimX P 0 f,slimXs P c.args.toList c.argTypes.toList with
  | some f,some args=>some (.call f args)
  | _,_=>none
 | .builtin .len=>
  match c.args.toList,c.argTypes.toList with
  | [x],[T]=>
   match P.underlying T with
   | some (.slice _)=>(slimX P T x).map (.len false)
   | some .string=>(slimX P T x).map (.len true)
   | _=>none
  | _,_=>none
 | .builtin .append=>
  match c.args.toList,c.argTypes.toList with
  | [x,y],[T,T']=>
   match P.underlying T,P.underlying T' with
   | some (.slice e),some (.slice _)=>
    match szOf P e,zeroV P e,P.info? e,slimX P T x,slimX P T' y with
    | some sz,some _,some i,some a,some b=>if T == T' && sz != some 0 then some (.append e sz i.bytes a b) else none
    | _,_,_,_,_=>none
   | some (.slice e),some (.int _)=>
    match szOf P e,zeroV P e,P.info? e,slimX P T x,slimX P T' y with
    | some sz,some z,some i,some a,some b=>if sz != some 0 then some (.appendZ e sz z i.bytes a b) else none
    | _,_,_,_,_=>none
   | _,_=>none
  | _,_=>none
 | .builtin .copy=>
  match c.args.toList,c.argTypes.toList with
  | [x,y],[T,T']=>
   if T == T' then
    match P.underlying T with
    | some (.slice e)=>
     match szOf P e,slimX P T x,slimX P T' y with
     | some sz,some a,some b=>some (.copy sz a b)
     | _,_,_=>none
    | _=>none
   else none
  | _,_=>none
 | .builtin .max=>
  match c.args.toList with
  | [x,y]=>match slimX P 0 x,slimX P 0 y with | some a,some b=>some (.mm true a b) | _,_=>none
  | _=>none
 | .builtin .min=>
  match c.args.toList with
  | [x,y]=>match slimX P 0 x,slimX P 0 y with | some a,some b=>some (.mm false a b) | _,_=>none
  | _=>none
 | _=>none
def isNilC:Operand->Bool
 | .const (.slice none 0 0)=>true
 | _=>false
def slimMv (P:Program) (T:TypeId) (x:Operand):Option SO:=
 if isNilC x then
  match P.underlying T with
  | some (.slice e)=>match szOf P e with | some sz=>some (.nilSl e sz) | none=>none
  | _=>none
 else match x with
  | .const .nilFunc=>some .nilFn
  | _=>(slimX P T x).map .mv
def slimOp (P:Program) (o:Oper):Option SO:=
 match o.op with
 | .move x | .assign x=>slimMv P o.type x
 | .pick c a b=>
  match slimX P 0 c,slimX P o.type a,slimX P o.type b with
  | some c,some a,some b=>some (.pick c a b)
  | _,_,_=>none
 | .box T x=>(slimX P T x).map (.box T)
 | .alloc T=>(zeroOf P T).map (.alloc T)
 | .build T parts=>
  match P.underlying T with
  | some (.struct fs)=>
   match zeroOf P T,slimParts P fs parts.toList with
   | some zs,some ps=>if (fs.toList.all λf=>(P.info? f.type).isSome && decide (f.offset+tsz P f.type<=zs.length)) then some (.build zs ps) else none
   | _,_=>none
  | _=>none
 | .buildSlice T len parts=>
  match P.underlying T with
  | some (.slice e)=>
   match szOf P e,zeroV P e,slimXs P (parts.toList.map (·.2)) (parts.toList.map λ_=>e) with
   | some sz,some _,some xs=>if sz != some 0 && len == parts.size && inRow 0 parts.toList && len*width sz<=2^24 then some (.mkSl e sz xs) else none
   | _,_,_=>none
  | _=>none
 | .load T a=>
  match szOf P T,slimX P 0 a with
  | some sz,some a=>some (.load sz a)
  | _,_=>none
 | .store T a x=>
  match szOf P T,slimX P 0 a,slimX P T x with
  | some sz,some a,some x=>some (.store sz a x)
  | _,_,_=>none
 | .binOp op T x y Ty=>
  match P.underlying T,slimX P T x,slimX P Ty y with
  | some .bool,some a,some b=>
   match op with
   | .eql=>some (.eqb false a b)
   | .neq=>some (.eqb true a b)
   | _=>none
  | some (.slice _),some a,some _=>if isNilC y then match op with | .eql=>some (.isNil false a) | .neq=>some (.isNil true a) | _=>none else none
  | some _,some a,some b=>some (.bin op a b)
  | _,_,_=>none
 | .unOp op T x=>(slimX P T x).map (.un op)
 | .convert src dst x=>
  match slimX P src x,P.underlying src,P.underlying dst with
  | some a,some (.int _),some (.int k)=>some (.conv k a)
  | some a,some .string,some (.slice e)=>match P.underlying e with | some (.int .u8)=>some (.s2b a) | _=>none
  | some a,some (.slice e),some .string=>match P.underlying e with | some (.int .u8)=>some (.b2s a) | _=>none
  | _,_,_=>none
 | .makeFunc (.func f) first caps=>
  if first.size == 0 then (slimXs P caps.toList []).map (.makeFn f) else
  match first.toList,caps.size == 0 with
  | [x],true=>(slimX P 0 x).map (.makeB f)
  | _,_=>none
 | .makeSlice T l c=>
  match P.underlying T with
  | some (.slice e)=>
   match szOf P e,zeroV P e,P.info? e,slimX P 0 l with
   | some sz,some z,some i,some l'=>if sameOpd l c && sz != some 0 && i.bytes != 0 then some (.make e sz z i.bytes l') else none
   | _,_,_,_=>none
  | _=>none
 | .slice T x lo hi none=>
  match P.underlying T,slimX P T x,slimO P lo,slimO P hi with
  | some (.slice e),some a,some lo,some hi=>match szOf P e with | some sz=>some (.slice (some sz) a lo hi) | none=>none
  | some .string,some a,some lo,some hi=>some (.slice none a lo hi)
  | _,_,_,_=>none
 | .fieldAddr T x f=>
  match P.underlying T,slimX P 0 x with
  | some (.struct fs),some a=>
   match fs[f]? with
   | some f=>match szOf P f.type with | some sz=>if sz != some 0 then some (.fieldAddr f.offset sz a) else none | none=>none
   | none=>none
  | _,_=>none
 | .field T x f=>
  match P.underlying T,slimX P T x with
  | some (.struct fs),some a=>
   match fs[f]? with
   | some f=>match szOf P f.type with | some sz=>some (.field f.offset sz a) | none=>none
   | none=>none
  | _,_=>none
 | .indexAddr T x i=>
  match P.underlying T with
  | some (.slice e)=>
   match szOf P e,slimX P T x,slimX P 0 i with
   | some sz,some a,some b=>some (.indexAddr sz a b)
   | _,_,_=>none
  | _=>none
 | .index T x i=>
  match P.underlying T,slimX P T x,slimX P 0 i with
  | some .string,some a,some b=>some (.index a b)
  | _,_,_=>none
 | .extract x j=>(slimX P 0 x).map (.extract · j)
 | .nilCheck x=>(slimX P 0 x).map .nilCheck
 | .call c=>slimCall P o c
 | _=>none
end Go.Vw
namespace Go.Vw
open Go.RowKit (Below)
def OpOK (P:Program) (A:Nat->Prop) (w0:Base) (n:Nat) (o:Oper) (S S':St):Prop:=
 ∀ a w,RelSt A w0 n S a w->∃ nx w',(execOp a.eval o).run P w= .ok nx w'/\
  ((∃ u,nx= .value u/\RelSt A w0 n S' (a.put o.dst u) w')\/(nx= .skip/\RelSt A w0 n S' (a.put o.dst undef) w'))
section
variable {P:Program} {A:Nat->Prop} {w0:Base} {n:Nat} {o:Oper} {S:St}
theorem ev_rel {T:TypeId} {x:Operand} {sx:SX} (hx:slimX P T x=some sx) {a:Act} {w:World} {μ:Nat->Value}
 (rel:∀ t,RelS w (okOf A w μ S.h) μ S.h (S.σ t) (a.tmps.getD t undef)):RelS w (okOf A w μ S.h) μ S.h (S.ev sx) (a.eval x):=by
 cases x with
 | tmp t=>simp only [slimX,Option.some.injEq] at hx; subst hx; exact rel t
 | const v=>simp only [slimX,Option.map_eq_some_iff] at hx; obtain ⟨c,hc,rfl⟩:=hx; exact .p _ _ (cst_rel hc _ _)
 | func f=>simp only [slimX,Option.some.injEq] at hx; subst hx; exact .p _ _ (.clo _ _ _ rfl (by simp))
 | global g=>simp [slimX] at hx
theorem pure_ok (hd:∀ t,o.dst=some t->t<n) {x:SV}
 (h:∀ (a:Act) (w:World) (μ:Nat->Value),HeapOK A w w0 μ S.h->(∀ t,RelS w (okOf A w μ S.h) μ S.h (S.σ t) (a.tmps.getD t undef))->
  ∃ u,(execOp a.eval o).run P w= .ok (.value u) w/\RelS w (okOf A w μ S.h) μ S.h x u):OpOK P A w0 n o S (S.put o.dst x):=by
 intro a w hR;obtain ⟨μ,H,rel⟩:=hR.ex;obtain ⟨u,hu,hx⟩:=h a w μ H rel;exact ⟨_,w,hu,.inl ⟨u,rfl,RelSt.put' rel hR.size hR.defers hR.new H (Keeps.refl A w μ S.h) hR.below hd hx⟩⟩
theorem ok_mv (hd:∀ t,o.dst=some t->t<n) {T:TypeId} {x:Operand} {sx:SX} (ho:o.op= .move x\/o.op= .assign x) (hx:slimX P T x=some sx):
 OpOK P A w0 n o S (S.put o.dst (S.ev sx)):=
 pure_ok hd λa w μ H rel=>⟨a.eval x,by rcases ho with h | h<;>simp [execOp,h],ev_rel hx rel⟩
theorem p_inv {w:World} {ok:Nat->Prop} {μ:Nat->Value} {h:Nat->HC} {v:V} {val:Value} (hs:RelS w ok μ h (.p v) val):RelV w ok v val:=by
 cases hs; assumption
theorem ok_pick (hd:∀ t,o.dst=some t->t<n) {c x y:Operand} {sc sx sy:SX} {t:Bool} {T1 T2 T3:TypeId} (ho:o.op= .pick c x y) (hc:slimX P T1 c=some sc) (hx:slimX P T2 x=some sx)
 (hy:slimX P T3 y=some sy) (hev:S.ev sc= .p (.b t)):OpOK P A w0 n o S (S.put o.dst (if t then S.ev sx else S.ev sy)):=
 pure_ok hd λa w μ H rel=>by
  have h1:=ev_rel hc rel;rw [hev] at h1;have h2:=p_inv h1;generalize hcv:a.eval c=cv at*
  cases h2 with
  | b _=>
   refine ⟨if t then a.eval x else a.eval y,by simp [execOp,ho,asBool,hcv],?_⟩;cases t
   . exact ev_rel hy rel
   . exact ev_rel hx rel
theorem BelowX.of_alloc {w0:Base} {w:World} (h:BelowX w0 w) (ob:Obj):BelowX w0 (w.alloc ob):=h.grow (Go.RowKit.Below.alloc (Go.RowKit.Below.refl _ _) (Nat.le_refl _) ob)
theorem heap_push_old {w:World} {ob:Obj} {b:Nat} (hb:b<w.heap.size):(w.alloc ob).heap[b]? =w.heap[b]? :=Go.RowKit.Below.heap_alloc w ob b hb
theorem RelSt.alloc_own {a:Act} {w:World} (hR:RelSt A w0 n S a w) {μ:Nat->Value} (H:HeapOK A w w0 μ S.h)
 (rel:∀ t,RelS w (okOf A w μ S.h) μ S.h (S.σ t) (a.tmps.getD t undef)) (hd:∀ t,o.dst=some t->t<n) (d:Nat) (ob:HObj) (base:Value) (cells:Array Value) (T:TypeId) (x:SV)
 (hobj:∀ (ok:Nat->Prop),(∀ b,okOf A w μ S.h b->ok b)->(∀ b o,okOf A w μ S.h b->(w.alloc (.cells cells T)).cell? ⟨b,o,none⟩=w.cell? ⟨b,o,none⟩)->
  RelObj (w.alloc (.cells cells T)) ok w0.B base ob)
 (hbase:∀ b,blk base=some b->b=w.heap.size)
 (u:Value) (hx:∀ (w':World) (ok:Nat->Prop),RelS w' ok (upd μ d base) (upd S.h d ⟨(S.h d).g+1,some ob⟩) x u):
 RelSt A w0 n ((S.heap (some (d,⟨(S.h d).g+1,some ob⟩))).put o.dst x) (a.put o.dst u) (w.alloc (.cells cells T)):=by
 obtain ⟨H',k⟩:=H.change (w':=w.alloc (.cells cells T)) d ⟨(S.h d).g+1,some ob⟩ base (by simp) (λb hb _=>heap_push_old hb)
  (λb _ hb=>.inr (by rw [hbase b hb]; exact Nat.le_refl _)) (λob' hob hok hcell=>by
   simp only [Option.some.injEq] at hob; subst hob;exact hobj _ hok hcell) (.inl (by simp))
 exact RelSt.put' rel hR.size hR.defers hR.new H' k (hR.below.of_alloc _) hd (hx _ _)
theorem RelSt.alloc_pure {a:Act} {w:World} (hR:RelSt A w0 n S a w) {μ:Nat->Value} (H:HeapOK A w w0 μ S.h)
 (rel:∀ t,RelS w (okOf A w μ S.h) μ S.h (S.σ t) (a.tmps.getD t undef)) (hd:∀ t,o.dst=some t->t<n) (ob:Obj) (v:V) (u:Value)
 (hx:okOf A (w.alloc ob) μ S.h w.heap.size->(∀ b,okOf A w μ S.h b->okOf A (w.alloc ob) μ S.h b)->
  (∀ b o,okOf A w μ S.h b->(w.alloc ob).cell? ⟨b,o,none⟩=w.cell? ⟨b,o,none⟩)->RelV (w.alloc ob) (okOf A (w.alloc ob) μ S.h) v u):
 RelSt A w0 n (S.put o.dst (.p v)) (a.put o.dst u) (w.alloc ob):=by
 obtain ⟨H',k⟩:=H.grow (w':=w.alloc ob) (Go.RowKit.Below.alloc (Go.RowKit.Below.refl _ _) (Nat.le_refl _) ob);refine RelSt.put' rel hR.size hR.defers hR.new H' k (hR.below.of_alloc _) hd (.p _ _ (hx ?_ k.ok k.cell));refine ⟨hR.new _ (.inl hR.below.size),by simp,λr hr hb=>?_⟩;cases ho:(S.h r).o with
 | none=>exact absurd ho hr
 | some ob'=>have:=((H.obj r ob' ho).lt hb).2; omega
theorem heap_alloc_at (w:World) (ob:Obj):(w.alloc ob).heap[w.heap.size]? =some ob:=heap_alloc_new w ob
theorem ok_box (hd:∀ t,o.dst=some t->t<n) {T:TypeId} {x:Operand} {sx:SX} {d:Nat} {v:V} (ho:o.op= .box T x) (hx:slimX P T x=some sx) (hev:S.ev sx= .p v) (hdst:o.dst=some d):
 OpOK P A w0 n o S ((S.heap (some (d,⟨(S.h d).g+1,some (.box T v.cells)⟩))).put o.dst (.ptr d ((S.h d).g+1) 0)):=by
 intro a w hR;obtain ⟨μ,H,rel⟩:=hR.ex;have h1:=ev_rel hx rel;rw [hev] at h1;have h2:=p_inv h1;refine ⟨.value (.pointer (some ⟨w.heap.size,0,none⟩)),w.alloc (.cells (a.eval x).cells T),?_,.inl ⟨_,rfl,?_⟩⟩
 . simp [execOp,ho,Instr.box,newVar,newRow]
 . refine hR.alloc_own H rel hd d _ (.pointer (some ⟨w.heap.size,0,none⟩)) (a.eval x).cells T _ (λok hok hcell=>?_) (λb hb=>by simpa [blk] using hb.symm) _ (λw' ok=>?_)
   . exact ⟨_,_,rfl,.inl hR.below.size,heap_alloc_at w _,(RelFlat.cells h2).mono hok hcell⟩
   . exact .ptr _ _ _ _ (by simp) ⟨w.heap.size,by simp [blk],by simp⟩
theorem ok_alloc (hd:∀ t,o.dst=some t->t<n) {T:TypeId} {zs:List V} {d:Nat} (ho:o.op= .alloc T) (hz:zeroOf P T=some zs) (hdst:o.dst=some d):
 OpOK P A w0 n o S ((S.heap (some (d,⟨(S.h d).g+1,some (.box T zs)⟩))).put o.dst (.ptr d ((S.h d).g+1) 0)):=by
 intro a w hR;obtain ⟨μ,H,rel⟩:=hR.ex;obtain ⟨i,z,hi,hz',hr⟩:=zeroOf_spec hz;refine ⟨.value (.pointer (some ⟨w.heap.size,0,none⟩)),w.alloc (.cells z.cells T),?_,.inl ⟨_,rfl,?_⟩⟩
 . simp [execOp,ho,Instr.alloc,run_zero hi hz',newVar,newRow]
 . refine hR.alloc_own H rel hd d _ (.pointer (some ⟨w.heap.size,0,none⟩)) z.cells T _ (λok hok hcell=>?_) (λb hb=>by simpa [blk] using hb.symm) _ (λw' ok=>?_)
   . exact ⟨_,_,rfl,.inl hR.below.size,heap_alloc_at w _,hr _ _⟩
   . exact .ptr _ _ _ _ (by simp) ⟨w.heap.size,by simp [blk],by simp⟩
end
end Go.Vw
namespace Go.Vw
open Go.RowKit (Below)
theorem fold_set (off:Nat):∀ (vs:List Value) (k:Nat) (cells:Array Value),off+k+vs.length<=cells.size->
 (vs.zipIdx k).foldl (λcs (p:Value × Nat)=>cs.setIfInBounds (off+p.2) p.1) cells=(cells.toList.take (off+k)++vs++cells.toList.drop (off+k+vs.length)).toArray
 | [],k,cells,h=>by simp
 | v::r,k,cells,h=>by
  simp only [List.zipIdx_cons,List.foldl_cons];rw [fold_set off r (k+1) _ (by simp at h ⊢; omega)];have h1:off+k<cells.size:=by simp at h; omega
  apply congrArg List.toArray;have hl:off+k<cells.toList.length:=by simpa using h1
  rw [Array.toList_setIfInBounds];have e1:(cells.toList.set (off+k) v).take (off+(k+1))=cells.toList.take (off+k)++[v]:=by
   rw [show off+(k+1)=off+k+1 by omega,List.take_succ_eq_append_getElem (by simpa using hl)];rw [List.take_set_of_le (by omega)];simp
  have e2:(cells.toList.set (off+k) v).drop (off+(k+1)+r.length)=cells.toList.drop (off+k+(v::r).length):=by
   rw [List.drop_set_of_lt (by omega)];congr 1;simp; omega
  rw [e1,e2];simp
theorem fill_cons (place:Nat->Option (Nat × Nat)) (cells:Array Value) (i:Nat) (v:Value) (rest:List (Nat × Value)) {off size:Nat}
 (hp:place i=some (off,size)) (hs:v.cells.size=size) (hle:off+size<=cells.size):
 Instr.fill place cells ((i,v)::rest)=Instr.fill place (cells.toList.take off++v.cells.toList++cells.toList.drop (off+size)).toArray rest:=by
 simp only [Instr.fill,hp,hs];have h1:(decide (size≠size) || decide (off+size>cells.size))=false:=by simp; omega
 rw [if_neg (by simp; omega)];congr 1;have:=fold_set off v.cells.toList 0 cells (by simp [hs]; omega);simp only [Nat.add_zero,Array.length_toList,hs] at this;rw [<- this,<-Array.foldl_toList,Array.toList_zipIdx]
theorem run_tsz {P:Program} {T:TypeId} {i:TypeInfo} (hi:P.info? T=some i) (w:World):(sizeOf T).run P w= .ok (tsz P T) w:=by
 simp [sizeOf,typeInfo,hi,tsz]
theorem run_places {P:Program} (w:World):∀ (fs:List Field),(∀ f∈fs,(P.info? f.type).isSome=true)->
 (fs.mapM (m:=Sem) λf=>Prod.mk f.offset <$> sizeOf f.type).run P w= .ok (fs.map λf=>(f.offset,tsz P f.type)) w
 | [],_=>rfl
 | f::r,h=>by
  obtain ⟨i,hi⟩:=Option.isSome_iff_exists.1 (h f (by simp));have ih:=run_places (P:=P) w r λx hx=>h x (by simp [hx]);rw [List.mapM_cons];simp [run_tsz hi w,ih]
theorem cellsOf_sz {P:Program} {T:TypeId} {sz:Option Nat} (h:szOf P T=some sz):tsz P T=width sz:=by
 obtain ⟨d,i,hd,hi,h1,h2⟩:=szOf_spec h;simp [tsz,hi,h1]
section
variable {P:Program} {A:Nat->Prop} {w0:Base} {n:Nat} {o:Oper} {S:St}
theorem fill_struct {fs:Array Field} {a:Act} {w:World} {μ:Nat->Value} (rel:∀ t,RelS w (okOf A w μ S.h) μ S.h (S.σ t) (a.tmps.getD t undef)):
 ∀ (parts:List (Nat × Operand)) (ps:List (Nat × Nat × SX)) (vs:List V) (zs:List V) (cells:Array Value),slimParts P fs parts=some ps->
  plains (ps.map λp=>S.ev p.2.2)=some vs->fillOk (ps.map λp=>(p.1,p.2.1)) vs->RelFlat w (okOf A w μ S.h) none zs cells.toList->
  (∀ f∈fs,f.offset+tsz P f.type<=zs.length)->
  ∃ cells',Instr.fill ((fs.map λf=>(f.offset,tsz P f.type))[·]?) cells (parts.map λ(i,x)=>(i,a.eval x))=some cells'/\
   RelFlat w (okOf A w μ S.h) none (fillV zs (ps.map λp=>(p.1,p.2.1)) vs) cells'.toList
 | [],ps,vs,zs,cells,h1,h2,h3,h4,_=>by
  simp only [slimParts,Option.some.injEq] at h1; subst h1;exact ⟨cells,rfl,by cases vs<;>simpa [fillV] using h4⟩
 | (i,x)::rest,ps,vs,zs,cells,h1,h2,h3,h4,hof=>by
  simp only [slimParts] at h1;split at h1
  . rename_i f hf;split at h1
    . rename_i sz sx r hsz hx hr;simp only [Option.some.injEq] at h1; subst h1;simp only [List.map_cons] at h2 h3 ⊢;cases hev:S.ev sx with
      | p v=>
       rw [hev] at h2;simp only [plains,Option.map_eq_some_iff] at h2;obtain ⟨vs',h2,rfl⟩:=h2;simp only [fillOk] at h3;have hv:=ev_rel hx rel;rw [hev] at hv;have hc:=RelFlat.cells (p_inv hv);have hl:=hc.length;have hz:=h4.length;simp only [width,Option.getD_none,Nat.mul_one,Array.length_toList] at hl hz;have hmem:f∈fs:=Array.mem_of_getElem? hf;have hle:=hof f hmem;rw [cellsOf_sz hsz] at hle;have hfill:=fill_cons ((fs.map λf=>(f.offset,tsz P f.type))[·]?) cells i (a.eval x) (rest.map λ(i,x)=>(i,a.eval x)) (off:=f.offset) (size:=width sz)
        (by simp [hf,cellsOf_sz hsz]) (by rw [hl,h3.1]) (by omega)
       rw [hfill];refine fill_struct rel rest r vs' _ _ hr h2 h3.2 ?_ (λg hg=>?_)
       . have t1:=h4.take f.offset;have t2:=h4.drop (f.offset+width sz);simp only [width,Option.getD_none,Nat.mul_one] at t1 t2;exact (t1.append hc).append t2
       . have:=hof g hg;simp only [List.length_append,List.length_take,List.length_drop,h3.1];omega
      | _=>rw [hev] at h2; simp [plains] at h2
    . cases h1
  . cases h1
theorem ok_build (hd:∀ t,o.dst=some t->t<n) {T:TypeId} {parts:Array (Nat × Operand)} {fs:Array Field} {zs:List V} {ps:List (Nat × Nat × SX)} {vs:List V}
 (ho:o.op= .build T parts) (hT:P.underlying T=some (.struct fs)) (hz:zeroOf P T=some zs) (hps:slimParts P fs parts.toList=some ps)
 (hof:(fs.toList.all λf=>(P.info? f.type).isSome && decide (f.offset+tsz P f.type<=zs.length))=true)
 (hev:plains (ps.map λp=>S.ev p.2.2)=some vs) (hok:fillOk (ps.map λp=>(p.1,p.2.1)) vs):
 OpOK P A w0 n o S (S.put o.dst (.p (.agg (fillV zs (ps.map λp=>(p.1,p.2.1)) vs)))):=
 pure_ok hd λa w μ H rel=>by
  obtain ⟨i,z,hi,hz',hr⟩:=zeroOf_spec hz;have hof':∀ f∈fs,(P.info? f.type).isSome=true/\f.offset+tsz P f.type<=zs.length:=λf hf=>by
   have:=List.all_eq_true.1 hof f (by simpa using hf)
   simpa using this
  obtain ⟨cells',h1,h2⟩:=fill_struct (P:=P) (fs:=fs) rel parts.toList ps vs zs z.cells hps hev hok (hr w _) (λf hf=>(hof' f hf).2);refine ⟨.agg cells',?_,.p _ _ (by simpa using h2.agg)⟩;have hpl:=run_places (P:=P) w fs.toList λf hf=>(hof' f (by simpa using hf)).1;have hpl':(fs.mapM (m:=Sem) λf=>Prod.mk f.offset <$> sizeOf f.type).run P w= .ok (fs.map λf=>(f.offset,tsz P f.type)) w:=by
   rw [Array.mapM_eq_mapM_toList,Sem.run_map,hpl];simp only [Result.andThen_ok];congr 1;apply Array.ext';simp
  have h1':Instr.fill ((fs.map λf=>(f.offset,tsz P f.type))[·]?) z.cells (parts.map λ(i,x)=>(i,a.eval x)).toList=some cells':=by
   rw [Array.toList_map]; exact h1
  simp only [Array.toList_map,Array.getElem?_map] at h1';simp [execOp,ho,Instr.build,run_zero hi hz',run_underlying hT,hpl',h1',Result.andThen]
end
end Go.Vw
namespace Go.Vw
open Go.RowKit (Below)
theorem getD_lt {α:Type} (l:List α) (d:α) {j:Nat} (h:j<l.length):l.getD j d=l[j]:=by simp [List.getD,h]
section
variable {P:Program} {A:Nat->Prop} {w0:Base} {n:Nat} {o:Oper} {S:St}
theorem fill_rows {e:TypeId} {sz:Option Nat} {a:Act} {w:World} {μ:Nat->Value} (rel:∀ t,RelS w (okOf A w μ S.h) μ S.h (S.σ t) (a.tmps.getD t undef)):
 ∀ (parts:List (Nat × Operand)) (k:Nat) (xs:List SX) (vs:List V) (cells:Array Value),inRow k parts=true->
  slimXs P (parts.map (·.2)) (parts.map λ_=>e)=some xs->plains (xs.map S.ev)=some vs->(∀ v∈vs,v.fits sz)->(k+parts.length)*width sz<=cells.size->
  ∃ flat,RelFlat w (okOf A w μ S.h) sz vs flat/\vs.length=parts.length/\
   Instr.fill (λi=>some (i*width sz,width sz)) cells (parts.map λ(i,x)=>(i,a.eval x))=
    some (cells.toList.take (k*width sz)++flat++cells.toList.drop ((k+parts.length)*width sz)).toArray
 | [],k,xs,vs,cells,_,h1,h2,_,_=>by
  simp only [List.map_nil,slimXs,Option.some.injEq] at h1; subst h1;simp only [List.map_nil,plains,Option.some.injEq] at h2; subst h2;exact ⟨[],RelFlat.nil sz,rfl,by simp [Instr.fill]⟩
 | (i,x)::rest,k,xs,vs,cells,hrow,h1,h2,hf,hle=>by
  simp only [inRow,Bool.and_eq_true,beq_iff_eq] at hrow;obtain ⟨rfl,hrow⟩:=hrow;simp only [List.map_cons,slimXs] at h1;split at h1
  . rename_i sx r hx hr;simp only [Option.some.injEq] at h1; subst h1;simp only [List.map_cons] at h2;cases hev:S.ev sx with
    | p v=>
     rw [hev] at h2;simp only [plains,Option.map_eq_some_iff] at h2;obtain ⟨vs',h2,rfl⟩:=h2;simp only [List.headD_cons] at hx;have hv:=ev_rel hx rel;rw [hev] at hv;have hs:=(p_inv hv).shape (hf v (by simp));have hone:=RelFlat.one (p_inv hv) hs;have hsz:=hs.size;simp only [List.length_cons] at hle;have hmul:(i+(rest.length+1))*width sz=i*width sz+width sz+rest.length*width sz:=by simp only [Nat.add_mul]; omega
     simp only [List.map_cons];rw [fill_cons _ cells i (a.eval x) _ rfl hsz (by omega)];have hlen:((cells.toList.take (i*width sz)++(a.eval x).cells.toList++cells.toList.drop (i*width sz+width sz)).toArray).size=cells.size:=by
      simp [hsz]; omega
     have hmul2:(i+1+rest.length)*width sz=i*width sz+width sz+rest.length*width sz:=by simp only [Nat.add_mul]; omega
     obtain ⟨flat,f1,f2,f3⟩:=fill_rows rel rest (i+1) r vs' (cells.toList.take (i*width sz)++(a.eval x).cells.toList++cells.toList.drop (i*width sz+width sz)).toArray hrow hr h2 (λv hv=>hf v (by simp [hv])) (by rw [hlen]; omega);refine ⟨(a.eval x).cells.toList++flat,hone.append f1,by simp [f2],?_⟩;rw [f3];have hw:(i+1)*width sz=i*width sz+width sz:=by simp only [Nat.add_mul]; omega
     have hsz':(a.eval x).cells.toList.length=width sz:=by simpa using hsz
     have l1:(cells.toList.take (i*width sz)).length=i*width sz:=by simp; omega
     apply congrArg; apply congrArg;simp only [hw,hmul,hmul2,List.toList_toArray];have t1:(cells.toList.take (i*width sz)++(a.eval x).cells.toList++cells.toList.drop (i*width sz+width sz)).take (i*width sz+width sz)=cells.toList.take (i*width sz)++(a.eval x).cells.toList:=by
      rw [List.take_append_of_le_length (by simp only [List.length_append,l1,hsz']; omega)];rw [List.take_of_length_le (by simp only [List.length_append,l1,hsz']; omega)]
     have t2:(cells.toList.take (i*width sz)++(a.eval x).cells.toList++cells.toList.drop (i*width sz+width sz)).drop (i*width sz+width sz+rest.length*width sz)=cells.toList.drop (i*width sz+width sz+rest.length*width sz):=by
      rw [List.drop_append,List.drop_of_length_le (by simp only [List.length_append,l1,hsz']; omega),List.nil_append,List.drop_drop];congr 1;simp only [List.length_append,l1,hsz']; omega
     rw [t1,t2];simp only [List.length_cons,hmul,List.append_assoc]
    | _=>rw [hev] at h2; simp [plains] at h2
  . cases h1
theorem ownsRow_new {w:World} {B:Nat->Prop} {e:TypeId} {size k:Nat} {cells:Array Value} (hB:B w.heap.size) (hm:k<=maxLen) (hs:cells.size=k*size):
 owns (w.alloc (.cells cells e)) B e size (.slice (some ⟨w.heap.size,0,none⟩) k k) k cells.toList:=owns_of (World.ownsRow_lit w cells k (Nat.zero_le _) hm hs) λb hb=>by
  simp only [blk,Option.some.injEq] at hb; rw [<- hb]; exact hB
theorem run_mkSl {T e:TypeId} {len:Nat} {parts:Array (Nat × Operand)} {sz:Option Nat} {xs:List SX} {vs:List V} {zv:V}
 (ho:o.op= .buildSlice T len parts) (hT:P.underlying T=some (.slice e)) (hsz:szOf P e=some sz) (hzv:zeroV P e=some zv)
 (hxs:slimXs P (parts.toList.map (·.2)) (parts.toList.map λ_=>e)=some xs) (hlen:len=parts.size) (hrow:inRow 0 parts.toList=true) (hsmall:len*width sz<=2^24)
 (hev:plains (xs.map S.ev)=some vs) (hf:∀ v∈vs,v.fits sz) {a:Act} {w:World} {μ:Nat->Value} (rel:∀ t,RelS w (okOf A w μ S.h) μ S.h (S.σ t) (a.tmps.getD t undef)):
 ∃ flat,RelFlat w (okOf A w μ S.h) sz vs flat/\vs.length=len/\
  (execOp a.eval o).run P w= .ok (.value (.slice (some ⟨w.heap.size,0,none⟩) len len)) (w.alloc (.cells flat.toArray e)):=by
 obtain ⟨sz',i,z,z',hs',hi,hz,hzc,hsh,_⟩:=zeroV_spec hzv;rw [hsz,Option.some.injEq] at hs'; subst hs';subst hlen
 let base:Array Value:=(Array.range (parts.size*width sz)).map ((if parts.size*width sz=0 then #[] else z.cells)[· %(if parts.size*width sz=0 then #[] else z.cells).size]!)
 have hbs:base.size=parts.size*width sz:=by simp [base]
 obtain ⟨flat,f1,f2,f3⟩:=fill_rows (P:=P) (e:=e) (sz:=sz) rel parts.toList 0 xs vs base hrow hxs hev hf (by rw [hbs]; simp);refine ⟨flat,f1,by simpa using f2,?_⟩;simp only [Nat.zero_mul,List.take_zero,List.nil_append,Nat.zero_add,Array.length_toList] at f3;rw [List.drop_of_length_le (by simp [hbs]),List.append_nil] at f3;have hr:=run_sz hsz w;by_cases h0:parts.size*width sz=0
 . simp only [base,h0,if_true,Array.range_zero',Array.map_empty] at f3;simp [execOp,ho,Instr.buildSlice,run_underlying hT,hr,h0,newRow,f3,Array.range_zero']
 . simp only [base,h0,if_false] at f3;have hn:¬ (16777216<parts.size*width sz):=by omega
   simp [execOp,ho,Instr.buildSlice,run_underlying hT,hr,h0,newRow,f3,run_zero hi hz,hn]
theorem ok_mkSl_own (hd:∀ t,o.dst=some t->t<n) {T e:TypeId} {len:Nat} {parts:Array (Nat × Operand)} {sz:Option Nat} {xs:List SX} {vs:List V} {zv:V} {d:Nat}
 (ho:o.op= .buildSlice T len parts) (hT:P.underlying T=some (.slice e)) (hsz:szOf P e=some sz) (hzv:zeroV P e=some zv)
 (hxs:slimXs P (parts.toList.map (·.2)) (parts.toList.map λ_=>e)=some xs) (hlen:len=parts.size) (hrow:inRow 0 parts.toList=true) (hsmall:len*width sz<=2^24) (hpos:0<width sz)
 (hev:plains (xs.map S.ev)=some vs) (hf:∀ v∈vs,v.fits sz):
 OpOK P A w0 n o S ((S.heap (some (d,⟨(S.h d).g+1,some (.arr e sz vs)⟩))).put o.dst (.own d ((S.h d).g+1) 0 vs.length)):=by
 intro a w hR;obtain ⟨μ,H,rel⟩:=hR.ex;obtain ⟨flat,f1,f2,f3⟩:=run_mkSl ho hT hsz hzv hxs hlen hrow hsmall hev hf rel;have hfl:=f1.length;refine ⟨_,_,f3,.inl ⟨_,rfl,?_⟩⟩;have hm:vs.length<=maxLen:=by
  have:vs.length<=len*width sz:=by rw [f2]; exact Nat.le_mul_of_pos_right _ hpos
  simp only [maxLen]; omega
 refine hR.alloc_own H rel hd d _ (.slice (some ⟨w.heap.size,0,none⟩) len len) flat.toArray e _ (λok hok hcell=>?_) (λb hb=>by simpa [blk] using hb.symm) _ (λw' ok=>?_)
 . refine ⟨flat,?_,f1.mono hok hcell⟩;rw [<- f2];have:=ownsRow_new (w:=w) (e:=e) (k:=vs.length) (B:=w0.B) (cells:=flat.toArray) (.inl hR.below.size) hm (by simpa using hfl)
   simpa using this
 . refine .own _ _ _ _ _ (by simp) ?_;simp only [upd_same,SubOf];exact ⟨0,len,by simp [f2],by omega,.inr ⟨by simp,by omega⟩⟩
theorem ok_mkSl (hd:∀ t,o.dst=some t->t<n) {T e:TypeId} {len:Nat} {parts:Array (Nat × Operand)} {sz:Option Nat} {xs:List SX} {vs:List V} {zv:V}
 (ho:o.op= .buildSlice T len parts) (hT:P.underlying T=some (.slice e)) (hsz:szOf P e=some sz) (hzv:zeroV P e=some zv)
 (hxs:slimXs P (parts.toList.map (·.2)) (parts.toList.map λ_=>e)=some xs) (hlen:len=parts.size) (hrow:inRow 0 parts.toList=true) (hsmall:len*width sz<=2^24)
 (hev:plains (xs.map S.ev)=some vs) (hf:∀ v∈vs,v.fits sz):
 OpOK P A w0 n o S (S.put o.dst (.p (.sl sz vs))):=by
 intro a w hR;obtain ⟨μ,H,rel⟩:=hR.ex;obtain ⟨flat,f1,f2,f3⟩:=run_mkSl ho hT hsz hzv hxs hlen hrow hsmall hev hf rel;refine ⟨_,_,f3,.inl ⟨_,rfl,?_⟩⟩;refine hR.alloc_pure H rel hd _ _ _ λhnew hok hcell=>?_;rw [<- f2];exact (f1.mono hok hcell).slice (rangeAt_of_row (heap_alloc_at w _) 0 flat (λi c hc=>by simpa using hc)) hnew (Nat.le_refl _)
theorem run_loadAt_rel {T:TypeId} {sz:Option Nat} (hsz:szOf P T=some sz) {w:World} {g off:Nat} {val:Value} (hs:Shape sz val) (hc:w.rangeAt g off val.cells.toList):
 (Instr.loadAt T (.pointer (some ⟨g,off,none⟩))).run P w= .ok val w:=by
 obtain ⟨d,i,hd,hi,h1,h2⟩:=szOf_spec hsz;cases sz with
 | none=>
  have hc0:w.cell? ⟨g,off,none⟩=some val:=by
   have hcell:val.cells.toList=[val]:=by cases val<;>simp_all [Shape,Value.oneCell',Value.cells]
   have:=hc 0 val (by rw [hcell]; rfl)
   simpa using this
  simp [Instr.loadAt,Instr.sureAddr,loadVar,run_isAgg hsz,hc0]
 | some k=>
  obtain ⟨cs,rfl,h3,h4⟩:=hs;have:=run_loadAt_mid (P:=P) w g off T cs.toList d hc hd (by rw [h2]; rfl) (by simp [hi,h1,width,h3])
  simpa using this
theorem ok_load_ref (hd:∀ t,o.dst=some t->t<n) {T:TypeId} {x:Operand} {sx:SX} {sz:Option Nat} {v:V} {T1:TypeId} (ho:o.op= .load T x) (hsz:szOf P T=some sz) (hx:slimX P T1 x=some sx)
 (hev:S.ev sx= .p (.ref sz v)):OpOK P A w0 n o S (S.put o.dst (.p v)):=
 pure_ok hd λa w μ H rel=>by
  have h1:=ev_rel hx rel;rw [hev] at h1;have h2:=p_inv h1;generalize hv:a.eval x=val at*
  cases h2 with
  | ref _ _ g off val' hok hrel hsh hcell=>
   exact ⟨val',by simp [execOp,ho,hv,run_loadAt_rel hsz hsh hcell],.p _ _ hrel⟩
theorem ptr_inv {w:World} {ok:Nat->Prop} {μ:Nat->Value} {h:Nat->HC} {r g j:Nat} {val:Value} (hs:RelS w ok μ h (.ptr r g j) val) (hg:g=(h r).g):
 PtrOf (μ r) (h r).width j val:=by
 cases hs with
 | ptr_stale _ _ _ _ hlt=>omega
 | ptr _ _ _ _ _ hs=>exact hs
theorem part_rel {w:World} {ok:Nat->Prop} {cs:List V} {flat:List Value} (h:RelFlat w ok none cs flat) {off:Nat} {sz:Option Nat} (hp:partOk cs off sz):
 ∃ val,RelV w ok (V.part cs off sz) val/\(sz=none->Shape none val)/\(∀ k,sz=some k->Shape (some k) val)/\∀ i c,val.cells.toList[i]? =some c->flat[off+i]? =some c:=by
 cases sz with
 | none=>
  obtain ⟨val,h1,h2,h3⟩:=h.get (j:=off) hp;refine ⟨val,?_,λ_=>h2,by simp,λi c hc=>?_⟩
  . simp only [V.part];have hlt:off<cs.length:=hp;rw [getD_lt _ _ hlt]; exact h1
  . have:=h3 i c hc
    simpa [width] using this
 | some k=>
  have h1:=((h.drop off).take k);simp only [width,Option.getD_none,Nat.mul_one] at h1;have hl:=h.length;simp only [width,Option.getD_none,Nat.mul_one] at hl;simp only [partOk] at hp;refine ⟨_,h1.agg,by simp,λk' hk'=>?_,λi c hc=>?_⟩
  . simp only [Option.some.injEq] at hk'; subst hk';exact ⟨_,rfl,by simp; omega,λc hc=>h1.ones c (by simpa using hc)⟩
  . simp only [Value.cells,List.toList_toArray,List.getElem?_take,List.getElem?_drop] at hc;split at hc
    . exact hc
    . cases hc
theorem shape_of {sz:Option Nat} {val:Value} (h1:sz=none->Shape none val) (h2:∀ k,sz=some k->Shape (some k) val):Shape sz val:=by
 cases sz with
 | none=>exact h1 rfl
 | some k=>exact h2 k rfl
theorem ok_load_box (hd:∀ t,o.dst=some t->t<n) {T T':TypeId} {x:Operand} {sx:SX} {sz:Option Nat} {r g j:Nat} {cs:List V} {T1:TypeId} (ho:o.op= .load T x) (hsz:szOf P T=some sz) (hx:slimX P T1 x=some sx)
 (hev:S.ev sx= .ptr r g j) (hobj:(S.h r).o=some (.box T' cs)) (hg:g=(S.h r).g) (hp:partOk cs j sz):OpOK P A w0 n o S (S.put o.dst (.p (V.part cs j sz))):=
 pure_ok hd λa w μ H rel=>by
  have h1:=ev_rel hx rel;rw [hev] at h1;obtain ⟨b,hb,hval⟩:=ptr_inv h1 hg;obtain ⟨b',cells,hbase,hB,hheap,hflat⟩:=H.obj r _ hobj;rw [hbase] at hb;simp only [blk,Option.some.injEq] at hb; subst hb;obtain ⟨val,v1,v2,v3,v4⟩:=part_rel hflat hp;have hw:(S.h r).width=1:=by simp [HC.width,hobj,HObj.width]
  rw [hw,Nat.mul_one] at hval;refine ⟨val,?_,.p _ _ v1⟩;rw [execOp,ho];simp only [hval];simp [run_loadAt_rel hsz (shape_of v2 v3) (rangeAt_of_row hheap j _ v4)]
theorem ok_load_arr (hd:∀ t,o.dst=some t->t<n) {T T':TypeId} {x:Operand} {sx:SX} {sz:Option Nat} {r g j:Nat} {xs:List V} {T1:TypeId} (ho:o.op= .load T x) (hsz:szOf P T=some sz) (hx:slimX P T1 x=some sx)
 (hev:S.ev sx= .ptr r g j) (hobj:(S.h r).o=some (.arr T' sz xs)) (hg:g=(S.h r).g) (hj:j<xs.length):OpOK P A w0 n o S (S.put o.dst (.p (xs.getD j default))):=
 pure_ok hd λa w μ H rel=>by
  have h1:=ev_rel hx rel;rw [hev] at h1;obtain ⟨b,hb,hval⟩:=ptr_inv h1 hg;obtain ⟨flat,hown,hflat⟩:=H.obj r _ hobj;rcases hown.2 with ⟨hnil,hn⟩ | ⟨b',cap,cur,hbase,hB,hheap,hcap,hmax,hcur,htake⟩
  . rw [hnil] at hb; simp [blk] at hb
  rw [hbase] at hb;simp only [blk,Option.some.injEq] at hb; subst hb;obtain ⟨val,v1,v2,v3⟩:=hflat.get hj;have hw:(S.h r).width=width sz:=by simp [HC.width,hobj,HObj.width]
  rw [hw] at hval;refine ⟨val,?_,.p _ _ (by rw [getD_lt _ _ hj]; exact v1)⟩;rw [execOp,ho];simp only [hval];have hr:w.rangeAt b' (j*width sz) val.cells.toList:=rangeAt_of_row hheap _ _ λi c hc=>by
   have:=v3 i c hc;rw [<- htake,List.getElem?_take] at this;split at this
   . exact this
   . cases this
  simp [run_loadAt_rel hsz v2 hr]
end
end Go.Vw
namespace Go.Vw
open Go.RowKit (Below)
theorem width_none:width none=1:=rfl
section
variable {P:Program} {A:Nat->Prop} {w0:Base} {n:Nat} {o:Oper} {S:St}
theorem BelowX.of_setRow {w0:Base} {w:World} (h:BelowX w0 w) {g:Nat} (hB:w0.B g) (cs:Array Value):BelowX w0 (w.setRow g cs):=
 ⟨h.os,h.tape,h.output,by simpa [World.setRow] using h.size,λk hk=>(setRow_other w g k cs (λe=>hk (e ▸ hB))).trans (h.block k hk)⟩
theorem size_setRow (w:World) (g:Nat) (cs:Array Value):(w.setRow g cs).heap.size=w.heap.size:=by simp [World.setRow]
theorem RelSt.write {a:Act} {w:World} (hR:RelSt A w0 n S a w) {μ:Nat->Value} (H:HeapOK A w w0 μ S.h)
 (rel:∀ t,RelS w (okOf A w μ S.h) μ S.h (S.σ t) (a.tmps.getD t undef)) (hd:∀ t,o.dst=some t->t<n) (r b:Nat) (ob:HObj) (cs:Array Value) (x:SV)
 (hlive:(S.h r).o≠none) (hb:blk (μ r)=some b) (hw:ob.width=(S.h r).width)
 (hobj:∀ (ok:Nat->Prop),(∀ b,okOf A w μ S.h b->ok b)->(∀ b' o,okOf A w μ S.h b'->(w.setRow b cs).cell? ⟨b',o,none⟩=w.cell? ⟨b',o,none⟩)->
  RelObj (w.setRow b cs) ok w0.B (μ r) ob)
 (u:Value) (hx:∀ (w':World) (ok:Nat->Prop) (h':Nat->HC),RelS w' ok μ h' x u):
 RelSt A w0 n ((S.heap (some (r,⟨(S.h r).g,some ob⟩))).put o.dst x) (a.put o.dst u) (w.setRow b cs):=by
 obtain ⟨ob0,hob0⟩:=Option.ne_none_iff_exists'.1 hlive;have hlt:=(H.obj r ob0 hob0).lt hb;obtain ⟨H',k⟩:=H.change (w':=w.setRow b cs) r ⟨(S.h r).g,some ob⟩ (μ r) (by rw [size_setRow]; exact Nat.le_refl _)
  (λb' hb' hne=>setRow_other w b b' cs (λe=>hne hlive (by rw [hb,e])))
  (λb' _ hb'=>.inl ⟨hlive,hb'⟩) (λob' hob hok hcell=>by
   simp only [Option.some.injEq] at hob; subst hob;exact hobj _ hok hcell) (.inr ⟨rfl,by simpa [HC.width] using hw,rfl⟩)
 have hμ:upd μ r (μ r)=μ:=by funext t; simp only [upd]; split<;>simp_all
 refine RelSt.put' rel hR.size hR.defers hR.new H' k (hR.below.of_setRow hlt.1 _) hd ?_;rw [hμ]; exact hx _ _ _
theorem run_storeAt {T:TypeId} {sz:Option Nat} (hsz:szOf P T=some sz) {w:World} {g off:Nat} {val:Value} (hs:Shape sz val) {cur:Array Value} {T':TypeId}
 (hh:w.heap[g]? =some (.cells cur T' (0,0))) (hle:off+width sz<=cur.size):
 (Instr.storeAt T (.pointer (some ⟨g,off,none⟩)) val).run P w= .ok () (w.setRow g (cur.toList.take off++val.cells.toList++cur.toList.drop (off+width sz)).toArray):=by
 obtain ⟨d,i,hd,hi,h1,h2⟩:=szOf_spec hsz;have hl:=hs.list;have:=run_storeCells_at P g off T' val.cells.toList 0 cur w hh (by rw [hl]; simpa using hle) (λv hv=>hs.one v (by simpa using hv));simp only [Nat.add_zero,hl] at this;simp [Instr.storeAt,Instr.sureAddr,storeVar,run_sz hsz,hs.size,this]
theorem ok_store_box (hd:∀ t,o.dst=some t->t<n) {T T':TypeId} {x y:Operand} {sx sy:SX} {sz:Option Nat} {r g j:Nat} {cs:List V} {v:V} {T1 T2:TypeId} (ho:o.op= .store T x y)
 (hsz:szOf P T=some sz) (hx:slimX P T1 x=some sx) (hy:slimX P T2 y=some sy) (hev:S.ev sx= .ptr r g j) (hev':S.ev sy= .p v) (hobj:(S.h r).o=some (.box T' cs)) (hg:g=(S.h r).g)
 (hf:v.fits sz) (hle:j+v.cells.length<=cs.length):
 OpOK P A w0 n o S ((S.heap (some (r,⟨g,some (.box T' (cs.take j++v.cells++cs.drop (j+v.cells.length)))⟩))).put o.dst (.tup [])):=by
 intro a w hR;obtain ⟨μ,H,rel⟩:=hR.ex;have h1:=ev_rel hx rel;rw [hev] at h1;obtain ⟨b,hb,hval⟩:=ptr_inv h1 hg;obtain ⟨b',cells,hbase,hB,hheap,hflat⟩:=H.obj r _ hobj;rw [hbase] at hb;simp only [blk,Option.some.injEq] at hb; subst hb;have h2:=ev_rel hy rel;rw [hev'] at h2;have hv:=p_inv h2;have hs:=hv.shape hf;have hc:=RelFlat.cells hv;have hcl:=hc.length;have hfl:=hflat.length;simp only [width,Option.getD_none,Nat.mul_one,Array.length_toList] at hcl hfl;have hw:(S.h r).width=1:=by simp [HC.width,hobj,HObj.width]
 rw [hw,Nat.mul_one] at hval;have hvs:v.cells.length=width sz:=by rw [<- hcl]; exact hs.size
 have hst:=run_storeAt hsz hs hheap (off:=j) (by omega);subst hg;have hrun:(execOp a.eval o).run P w= .ok .skip (w.setRow b' (cells.toList.take j++(a.eval y).cells.toList++cells.toList.drop (j+width sz)).toArray):=by rw [execOp,ho]; simp [hval,hst]
 refine ⟨_,_,hrun,.inr ⟨rfl,?_⟩⟩;refine hR.write H rel hd r b' _ _ _ (by rw [hobj]; simp) (by rw [hbase]; rfl) (by simp [HObj.width,hw]) (λok hok hcell=>?_) _ (λw' ok h'=>.tup _ _ rfl (by simp));refine ⟨b',_,hbase,hB,setRow_heap w b' cells _ T' _ hheap,?_⟩;have t1:=(hflat.mono hok hcell).take j;have t2:=(hflat.mono hok hcell).drop (j+v.cells.length);simp only [width_none,Nat.mul_one] at t1 t2;rw [hvs] at t2 ⊢
 simpa using (t1.append (hc.mono hok hcell)).append t2
theorem drop_take_drop {α:Type} (l:List α) {M N:Nat} (h:M<=N):(l.drop M).take (N-M)++l.drop N=l.drop M:=by
 have:l.drop N=(l.drop M).drop (N-M):=by rw [List.drop_drop]; congr 1; omega
 rw [this,List.take_append_drop]
theorem ownsRow_write {w:World} {B:Nat->Prop} {T:TypeId} {size k g cap:Nat} {cur:Array Value} {flat':List Value}
 (h:w.heap[g]? =some (.cells cur T (0,0))) (hB:B g) (hk:k<=cap) (hm:cap<=maxLen) (hc:cur.size=cap*size) (hl:flat'.length=k*size):
 owns (w.setRow g (flat'++cur.toList.drop (k*size)).toArray) B T size (.slice (some ⟨g,0,none⟩) k cap) k flat':=by
 have hle:k*size<=cap*size:=Nat.mul_le_mul_right _ hk;refine ⟨hl,.inr ⟨g,cap,_,rfl,hB,setRow_heap w g cur _ T _ h,hk,hm,?_,?_⟩⟩
 . simp [hl,hc]; omega
 . rw [<- hl]; exact List.take_left
theorem ok_store_arr (hd:∀ t,o.dst=some t->t<n) {T T':TypeId} {x y:Operand} {sx sy:SX} {sz:Option Nat} {r g j:Nat} {xs:List V} {v:V} {T1 T2:TypeId} (ho:o.op= .store T x y)
 (hsz:szOf P T=some sz) (hx:slimX P T1 x=some sx) (hy:slimX P T2 y=some sy) (hev:S.ev sx= .ptr r g j) (hev':S.ev sy= .p v) (hobj:(S.h r).o=some (.arr T' sz xs)) (hg:g=(S.h r).g)
 (hf:v.fits sz) (hj:j<xs.length):
 OpOK P A w0 n o S ((S.heap (some (r,⟨g,some (.arr T' sz (xs.set j v))⟩))).put o.dst (.tup [])):=by
 intro a w hR;obtain ⟨μ,H,rel⟩:=hR.ex;have h1:=ev_rel hx rel;rw [hev] at h1;obtain ⟨b,hb,hval⟩:=ptr_inv h1 hg;obtain ⟨flat,hown,hflat⟩:=H.obj r _ hobj;rcases hown.2 with ⟨hnil,hn⟩ | ⟨b',cap,cur,hbase,hB,hheap,hcap,hmax,hcur,htake⟩
 . rw [hnil] at hb; simp [blk] at hb
 rw [hbase] at hb;simp only [blk,Option.some.injEq] at hb; subst hb;have h2:=ev_rel hy rel;rw [hev'] at h2;have hv:=p_inv h2;have hs:=hv.shape hf;have hfl:=hflat.length;have hw:(S.h r).width=width sz:=by simp [HC.width,hobj,HObj.width]
 rw [hw] at hval;have hle:(j+1)*width sz<=xs.length*width sz:=Nat.mul_le_mul_right _ hj;have hle2:xs.length*width sz<=cap*width sz:=Nat.mul_le_mul_right _ hcap;have hj1:(j+1)*width sz=j*width sz+width sz:=by rw [Nat.add_mul]; omega
 have hst:=run_storeAt hsz hs hheap (off:=j*width sz) (by omega);subst hg;have hrun:(execOp a.eval o).run P w= .ok .skip (w.setRow b' (cur.toList.take (j*width sz)++(a.eval y).cells.toList++cur.toList.drop (j*width sz+width sz)).toArray):=by rw [execOp,ho]; simp [hval,hst]
 refine ⟨_,_,hrun,.inr ⟨rfl,?_⟩⟩;refine hR.write H rel hd r b' _ _ _ (by rw [hobj]; simp) (by rw [hbase]; rfl) (by simp [HObj.width,hw]) (λok hok hcell=>?_) _ (λw' ok h'=>.tup _ _ rfl (by simp));have hone:=RelFlat.one (hv.mono hok hcell) hs;have t:=(((hflat.mono hok hcell).take j).append hone).append ((hflat.mono hok hcell).drop (j+1));have hset:xs.take j++[v]++xs.drop (j+1)=xs.set j v:=by rw [List.set_eq_take_append_cons_drop]; simp [hj]
 rw [hset] at t;refine ⟨_,?_,t⟩;have hlt:=t.length;rw [hbase];have hlen:(xs.set j v).length=xs.length:=by simp
 rw [hlen] at hlt ⊢;have:=ownsRow_write (k:=xs.length) hheap hB hcap hmax hcur hlt;have hcells:(flat.take (j*width sz)++(a.eval y).cells.toList++flat.drop ((j+1)*width sz))++cur.toList.drop (xs.length*width sz)=
  cur.toList.take (j*width sz)++(a.eval y).cells.toList++cur.toList.drop (j*width sz+width sz):=by
  rw [<- htake,List.take_take,List.drop_take,hj1];rw [Nat.min_eq_left (by omega)];simp only [List.append_assoc];rw [drop_take_drop _ (by omega)]
 rw [hcells] at this;exact this
theorem field_run {T:TypeId} {fs:Array Field} {f:Nat} {fl:Field} {sz:Option Nat} (hT:P.underlying T=some (.struct fs)) (hf:fs[f]? =some fl) (hsz:szOf P fl.type=some sz) (hpos:sz≠some 0)
 (w:World) (g off:Nat):(Instr.fieldAt T (.pointer (some ⟨g,off,none⟩)) f).run P w= .ok (.pointer (some ⟨g,off+fl.offset,none⟩)) w:=by
 have hw:=width_pos_list hpos;have h0:¬ width sz=0:=by omega
 simp [Instr.fieldAt,run_underlying hT,hf,Instr.sureAddr,fieldPlace,run_sz hsz,h0,Addr.add_lit]
theorem ok_fieldAddr_ptr (hd:∀ t,o.dst=some t->t<n) {T T':TypeId} {x:Operand} {sx:SX} {f:Nat} {fs:Array Field} {fl:Field} {sz:Option Nat} {r g j:Nat} {cs:List V} {T1:TypeId}
 (ho:o.op= .fieldAddr T x f) (hx:slimX P T1 x=some sx) (hT:P.underlying T=some (.struct fs)) (hf:fs[f]? =some fl) (hsz:szOf P fl.type=some sz) (hpos:sz≠some 0)
 (hev:S.ev sx= .ptr r g j) (hobj:(S.h r).o=some (.box T' cs)) (hg:g=(S.h r).g):OpOK P A w0 n o S (S.put o.dst (.ptr r g (j+fl.offset))):=
 pure_ok hd λa w μ H rel=>by
  have h1:=ev_rel hx rel;rw [hev] at h1;obtain ⟨b,hb,hval⟩:=ptr_inv h1 hg;have hw:(S.h r).width=1:=by simp [HC.width,hobj,HObj.width]
  rw [hw,Nat.mul_one] at hval;refine ⟨.pointer (some ⟨b,j+fl.offset,none⟩),?_,.ptr _ _ _ _ hg ⟨b,hb,by rw [hw]; simp⟩⟩;rw [execOp,ho];simp [hval,field_run hT hf hsz hpos]
theorem ok_fieldAddr_ref (hd:∀ t,o.dst=some t->t<n) {T:TypeId} {x:Operand} {sx:SX} {f:Nat} {fs:Array Field} {fl:Field} {sz:Option Nat} {k:Nat} {v:V} {T1:TypeId}
 (ho:o.op= .fieldAddr T x f) (hx:slimX P T1 x=some sx) (hT:P.underlying T=some (.struct fs)) (hf:fs[f]? =some fl) (hsz:szOf P fl.type=some sz) (hpos:sz≠some 0)
 (hev:S.ev sx= .p (.ref (some k) v)) (hagg:v.isAgg=true) (hp:partOk v.cells fl.offset sz):OpOK P A w0 n o S (S.put o.dst (.p (.ref sz (V.part v.cells fl.offset sz)))):=
 pure_ok hd λa w μ H rel=>by
  have h1:=ev_rel hx rel;rw [hev] at h1;have h2:=p_inv h1;generalize hv:a.eval x=val at*
  cases h2 with
  | ref _ _ b off val' hok hrel hsh hcell=>
   obtain ⟨pv,v1,v2,v3,v4⟩:=part_rel (RelFlat.cells hrel) hp;refine ⟨.pointer (some ⟨b,off+fl.offset,none⟩),by rw [execOp,ho]; simp [hv,field_run hT hf hsz hpos],.p _ _ (.ref sz _ b _ pv hok v1 (shape_of v2 v3) λi c hc=>?_)⟩;rw [Nat.add_assoc]; exact hcell _ _ (v4 i c hc)
theorem ok_field (hd:∀ t,o.dst=some t->t<n) {T:TypeId} {x:Operand} {sx:SX} {f:Nat} {fs:Array Field} {fl:Field} {sz:Option Nat} {v:V} {T1:TypeId}
 (ho:o.op= .field T x f) (hx:slimX P T1 x=some sx) (hT:P.underlying T=some (.struct fs)) (hf:fs[f]? =some fl) (hsz:szOf P fl.type=some sz)
 (hev:S.ev sx= .p v) (hagg:v.isAgg=true) (hp:partOk v.cells fl.offset sz):OpOK P A w0 n o S (S.put o.dst (.p (V.part v.cells fl.offset sz))):=
 pure_ok hd λa w μ H rel=>by
  have h1:=ev_rel hx rel;rw [hev] at h1;have h2:=p_inv h1;rcases h2.value with ⟨h3,_⟩ | ⟨cs,vals,rfl,hval,h5,h6⟩
  . rw [hagg] at h3; cases h3
  . have hc:=RelFlat.cells h2;rw [hval] at hc;simp only [V.cells,Value.cells] at hc hp;have hl:=hc.length;simp only [width_none,Nat.mul_one,Array.length_toList] at hl;cases sz with
    | none=>
     obtain ⟨pv,v1,v2,v3,v4⟩:=part_rel hc hp;have hpc:pv.cells.toList=[pv]:=by have:=v2 rfl; cases pv<;>simp_all [Shape,Value.oneCell',Value.cells]
     have h0:=v4 0 pv (by rw [hpc]; rfl);refine ⟨pv,?_,.p _ _ v1⟩;simp only [Nat.add_zero,Array.getElem?_toList] at h0;rw [execOp,ho];simp [hval,Instr.field,run_underlying hT,hf,asAgg,part,run_isAgg hsz,h0]
    | some k=>
     have h1:=((hc.drop fl.offset).take k);simp only [width_none,Nat.mul_one] at h1;refine ⟨.agg (vals.extract fl.offset (fl.offset+k)),?_,.p _ _ ?_⟩
     . rw [execOp,ho];simp [hval,Instr.field,run_underlying hT,hf,asAgg,part,run_isAgg hsz,run_sz hsz,width]
     . have:=h1.agg;have e:(List.take k (List.drop fl.offset vals.toList)).toArray=vals.extract fl.offset (fl.offset+k):=by
        apply Array.ext';simp [List.drop_take]
       rw [e] at this;exact this
end
end Go.Vw
namespace Go.Vw
open Go.RowKit (Below)
section
variable {P:Program} {A:Nat->Prop} {w0:Base} {n:Nat} {o:Oper} {S:St}
theorem own_inv {w:World} {ok:Nat->Prop} {μ:Nat->Value} {h:Nat->HC} {r g off len:Nat} {val:Value} (hs:RelS w ok μ h (.own r g off len) val) (hg:g=(h r).g):
 SubOf (μ r) (h r).width off len val:=by
 cases hs with
 | own_stale _ _ _ _ _ hlt _=>omega
 | own _ _ _ _ _ _ hs=>exact hs
theorem ok_indexAddr (hd:∀ t,o.dst=some t->t<n) {T e:TypeId} {x y:Operand} {sx sy:SX} {sz:Option Nat} {xs:List V} {k:IntKind} {i:Int} {T1 T2:TypeId}
 (ho:o.op= .indexAddr T x y) (hT:P.underlying T=some (.slice e)) (hsz:szOf P e=some sz) (hx:slimX P T1 x=some sx) (hy:slimX P T2 y=some sy)
 (hev:S.ev sx= .p (.sl sz xs)) (hev':S.ev sy= .p (.i k i)) (h0:0<=i) (hlt:i<xs.length):OpOK P A w0 n o S (S.put o.dst (.p (.ref sz (xs.getD i.toNat default)))):=
 pure_ok hd λa w μ H rel=>by
  have h1:=ev_rel hx rel;rw [hev] at h1;have h2:=p_inv h1;have h3:=ev_rel hy rel;rw [hev'] at h3;have h4:=p_inv h3;have hyv:a.eval y= .int k i:=by generalize a.eval y=yv at h4; cases h4; rfl
  generalize hv:a.eval x=val at*
  have hj:i.toNat<xs.length:=by omega
  cases h2 with
  | nil=>simp at hj
  | void=>simp at hj
  | sl _ _ b off len cap vals hlen hok hcap hrel hsh hcell=>
   subst hlen;refine ⟨.pointer (some ⟨b,off+i.toNat*width sz,none⟩),?_,.p _ _ (.ref sz _ b _ (vals i.toNat) hok ?_ (hsh _ hj) (hcell _ hj))⟩
   . rw [execOp,ho];simp [hv,hyv,Instr.indexAt,asIntOf,run_underlying hT,run_sz hsz,h0,hlt,Addr.add_lit]
   . rw [getD_lt _ _ hj]; exact hrel _ hj
theorem ok_indexAddr_own (hd:∀ t,o.dst=some t->t<n) {T e T':TypeId} {x y:Operand} {sx sy:SX} {sz:Option Nat} {xs:List V} {k:IntKind} {i:Int} {r g off len:Nat} {T1 T2:TypeId}
 (ho:o.op= .indexAddr T x y) (hT:P.underlying T=some (.slice e)) (hsz:szOf P e=some sz) (hx:slimX P T1 x=some sx) (hy:slimX P T2 y=some sy)
 (hev:S.ev sx= .own r g off len) (hev':S.ev sy= .p (.i k i)) (hobj:(S.h r).o=some (.arr T' sz xs)) (hg:g=(S.h r).g) (h0:0<=i) (hlt:i<len):
 OpOK P A w0 n o S (S.put o.dst (.ptr r g (off+i.toNat))):=
 pure_ok hd λa w μ H rel=>by
  have h1:=ev_rel hx rel;rw [hev] at h1;have h2:=own_inv h1 hg;have h3:=ev_rel hy rel;rw [hev'] at h3;have h4:=p_inv h3;have hyv:a.eval y= .int k i:=by generalize a.eval y=yv at h4; cases h4; rfl
  have hw:(S.h r).width=width sz:=by simp [HC.width,hobj,HObj.width]
  rw [hw] at h2;obtain ⟨flat,hown,hflat⟩:=H.obj r _ hobj;rcases hown.2 with ⟨hnil,hn⟩ | ⟨b',cap,cur,hbase,hB,hheap,hcap,hmax,hcur,htake⟩
  . rw [hnil] at h2; simp only [SubOf] at h2; omega
  . rw [hbase] at h2;simp only [SubOf] at h2;obtain ⟨b,c,hval,hlc,hc⟩:=h2;rcases hc with hc | ⟨hc,hc'⟩
    . omega
    . subst hc;refine ⟨.pointer (some ⟨b',(off+i.toNat)*width sz,none⟩),?_,.ptr _ _ _ _ hg ⟨b',by rw [hbase]; rfl,by rw [hw]⟩⟩;rw [execOp,ho];simp [hval,hyv,Instr.indexAt,asIntOf,run_underlying hT,run_sz hsz,h0,hlt,Addr.add_lit,Nat.add_mul]
theorem ok_index (hd:∀ t,o.dst=some t->t<n) {T:TypeId} {x y:Operand} {sx sy:SX} {s:ByteArray} {k:IntKind} {i:Int} {T1 T2:TypeId}
 (ho:o.op= .index T x y) (hT:P.underlying T=some .string) (hx:slimX P T1 x=some sx) (hy:slimX P T2 y=some sy)
 (hev:S.ev sx= .p (.s s)) (hev':S.ev sy= .p (.i k i)) (h0:0<=i) (hlt:i<s.size):OpOK P A w0 n o S (S.put o.dst (.p (.i .u8 ((s.data.toList.getD i.toNat 0).toNat:Nat)))):=
 pure_ok hd λa w μ H rel=>by
  have h1:=ev_rel hx rel;rw [hev] at h1;have h2:=p_inv h1;have h3:=ev_rel hy rel;rw [hev'] at h3;have h4:=p_inv h3;have hyv:a.eval y= .int k i:=by generalize a.eval y=yv at h4; cases h4; rfl
  have hxv:a.eval x= .string s:=by generalize a.eval x=xv at h2; cases h2; rfl
  have hj:i.toNat<s.size:=by omega
  have hj':i.toNat<s.data.toList.length:=by simpa using hj
  refine ⟨_,?_,.p _ _ (.i _ _)⟩;rw [execOp,ho];have hg:s[i.toNat]? =some (s.data.toList.getD i.toNat 0):=by
   rw [getD_lt _ _ hj',getElem?_pos s i.toNat hj];congr 1
  simp [hxv,hyv,Instr.index,asIntOf,run_underlying hT,h0,hg]
theorem bound_run {w:World} {k:IntKind} {i:Int} {y:Nat} {code:BoundsCode} (h0:0<=i) (h:i<=y):(Instr.sliceBound (.int k i) y code).run P w= .ok i.toNat w:=by
 simp [Instr.sliceBound,asIntOf,h0,h]
theorem low_rel {T:TypeId} {x:Option Operand} {sx:Option SX} (hx:slimO P x=some sx) {d l:Int} (hl:lowV d (sx.map S.ev)=some l) {a:Act} {w:World} {μ:Nat->Value}
 (rel:∀ t,RelS w (okOf A w μ S.h) μ S.h (S.σ t) (a.tmps.getD t undef)):(x=none/\l=d)\/∃ k y,x=some y/\a.eval y= .int k l:=by
 cases x with
 | none=>simp only [slimO,Option.some.injEq] at hx; subst hx; simp only [Option.map_none,lowV,Option.some.injEq] at hl; exact .inl ⟨rfl,hl.symm⟩
 | some y=>
  simp only [slimO,Option.map_eq_some_iff] at hx;obtain ⟨sy,hy,rfl⟩:=hx;simp only [Option.map_some] at hl;have h3:=ev_rel hy rel;cases hev:S.ev sy with
  | p v=>
   rw [hev] at h3 hl;cases v<;>simp only [lowV,reduceCtorEq,Option.some.injEq] at hl;rename_i k i;subst hl;have h4:=p_inv h3;have hyv:a.eval y= .int k i:=by generalize a.eval y=yv at h4; cases h4; rfl
   exact .inr ⟨k,y,rfl,hyv⟩
  | _=>rw [hev] at hl; simp [lowV] at hl
theorem bounds_run {lo hi:Option Operand} {slo shi:Option SX} (hlo:slimO P lo=some slo) (hhi:slimO P hi=some shi) {l h:Int} {len cap:Nat} (isS:Bool)
 (hl:lowV 0 (slo.map S.ev)=some l) (hh:lowV len (shi.map S.ev)=some h) (h0:0<=l) (h1:l<=h) (h2:h<=len) (hc:len<=cap) {a:Act} {w:World} {μ:Nat->Value}
 (rel:∀ t,RelS w (okOf A w μ S.h) μ S.h (S.σ t) (a.tmps.getD t undef)):
 (Instr.sliceBounds isS len cap (lo.map a.eval) (hi.map a.eval) none).run P w= .ok (l.toNat,h.toNat,cap) w:=by
 have e1:=low_rel (T:=0) hlo hl rel;have e2:=low_rel (T:=0) hhi hh rel;rcases e1 with ⟨rfl,rfl⟩ | ⟨k,y,rfl,hy⟩<;>rcases e2 with ⟨rfl,rfl⟩ | ⟨k',y',rfl,hy'⟩
 . simp [Instr.sliceBounds]
 . simp [Instr.sliceBounds,hy',bound_run (P:=P) (w:=w) (k:=k') (code:=if isS=true then BoundsCode.sliceAcap else BoundsCode.sliceAlen) (show (0:Int)<=h by omega) (show h<=(cap:Int) by omega)]
 . have hb:=bound_run (P:=P) (w:=w) (k:=k) (code:=BoundsCode.sliceB) (y:=len) h0 (show l<=(len:Int) by omega);simp [Instr.sliceBounds,hy,hb]
 . have hb:=bound_run (P:=P) (w:=w) (k:=k) (code:=BoundsCode.sliceB) (y:=h.toNat) h0 (show l<=(h.toNat:Int) by omega);simp [Instr.sliceBounds,hy,hy',hb,bound_run (P:=P) (w:=w) (k:=k') (code:=if isS=true then BoundsCode.sliceAcap else BoundsCode.sliceAlen) (show (0:Int)<=h by omega) (show h<=(cap:Int) by omega)]
theorem ok_slice (hd:∀ t,o.dst=some t->t<n) {T e:TypeId} {x:Operand} {sx:SX} {lo hi:Option Operand} {slo shi:Option SX} {sz sz':Option Nat} {xs:List V} {l h:Int} {T1:TypeId}
 (ho:o.op= .slice T x lo hi none) (hT:P.underlying T=some (.slice e)) (hsz:szOf P e=some sz') (hx:slimX P T1 x=some sx) (hlo:slimO P lo=some slo) (hhi:slimO P hi=some shi)
 (hev:S.ev sx= .p (.sl sz xs)) (hl:lowV 0 (slo.map S.ev)=some l) (hh:lowV xs.length (shi.map S.ev)=some h) (h0:0<=l) (h1:l<=h) (h2:h<=xs.length) (hszeq:sz=sz'):
 OpOK P A w0 n o S (S.put o.dst (.p (.sl sz ((xs.take h.toNat).drop l.toNat)))):=
 pure_ok hd λa w μ H rel=>by
  have h3:=ev_rel hx rel;rw [hev] at h3;have h4:=p_inv h3;subst hszeq;generalize hv:a.eval x=val at*
  cases h4 with
  | nil=>
   have hl0:l.toNat=0:=by simp at h2; omega
   have hh0:h.toNat=0:=by simp at h2; omega
   have hb:=bounds_run (P:=P) (A:=A) (S:=S) (cap:=0) hlo hhi true hl hh h0 h1 h2 (by simp) rel;refine ⟨.slice none 0 0,?_,.p _ _ (by simpa using RelV.nil sz)⟩;rw [execOp,ho];simp only [List.length_nil,hl0,hh0] at hb;simp [hv,Instr.sliceAt,Instr.slice,run_underlying hT,hb,run_sz hsz]
  | void _ a0=>
   have hl0:l.toNat=0:=by simp at h2; omega
   have hh0:h.toNat=0:=by simp at h2; omega
   have hb:=bounds_run (P:=P) (A:=A) (S:=S) (cap:=0) hlo hhi true hl hh h0 h1 h2 (by simp) rel;refine ⟨.slice (some a0) 0 0,?_,.p _ _ (by simpa using RelV.void sz a0)⟩;rw [execOp,ho];simp only [List.length_nil,hl0,hh0] at hb;simp [hv,Instr.sliceAt,Instr.slice,run_underlying hT,hb,run_sz hsz]
  | sl _ _ b off len cap vals hlen hok hcap hrel hsh hcell=>
   subst hlen;have hb:=bounds_run (P:=P) (A:=A) (S:=S) (cap:=cap) hlo hhi true hl hh h0 h1 h2 hcap rel;have hlen:((xs.take h.toNat).drop l.toNat).length=h.toNat-l.toNat:=by simp; omega
   refine ⟨.slice (if cap=l.toNat then some ⟨b,off,none⟩ else some ⟨b,off+l.toNat*width sz,none⟩) (h.toNat-l.toNat) (cap-l.toNat),?_,.p _ _ ?_⟩
   . rw [execOp,ho];simp [hv,Instr.sliceAt,Instr.slice,run_underlying hT,hb,run_sz hsz,Addr.add_lit]
   . by_cases hcl:cap=l.toNat
     . rw [if_pos hcl];have e0:(xs.take h.toNat).drop l.toNat=[]:=List.eq_nil_of_length_eq_zero (by rw [hlen]; omega);rw [e0];have e1:h.toNat-l.toNat=0:=by omega
       rw [e1];exact .sl sz [] b off 0 _ (λ_=>undef) rfl hok (by omega) (λj hj=>by simp at hj) (λj hj=>by simp at hj) (λj hj=>by simp at hj)
     . rw [if_neg hcl];refine .sl sz _ b _ _ _ (λj=>vals (l.toNat+j)) hlen.symm hok (by omega) (λj hj=>?_) (λj hj=>hsh _ (by rw [hlen] at hj; omega)) (λj hj=>?_)
       . have hj':=hj;rw [hlen] at hj';have:=hrel (l.toNat+j) (by omega)
         simpa using this
       . rw [hlen] at hj;have:=hcell (l.toNat+j) (by omega)
         rwa [show off+l.toNat*width sz+j*width sz=off+(l.toNat+j)*width sz by rw [Nat.add_mul]; omega]
theorem ok_slice_str (hd:∀ t,o.dst=some t->t<n) {T:TypeId} {x:Operand} {sx:SX} {lo hi:Option Operand} {slo shi:Option SX} {s:ByteArray} {l h:Int} {T1:TypeId}
 (ho:o.op= .slice T x lo hi none) (hT:P.underlying T=some .string) (hx:slimX P T1 x=some sx) (hlo:slimO P lo=some slo) (hhi:slimO P hi=some shi)
 (hev:S.ev sx= .p (.s s)) (hl:lowV 0 (slo.map S.ev)=some l) (hh:lowV s.size (shi.map S.ev)=some h) (h0:0<=l) (h1:l<=h) (h2:h<=s.size):
 OpOK P A w0 n o S (S.put o.dst (.p (.s (s.extract l.toNat h.toNat)))):=
 pure_ok hd λa w μ H rel=>by
  have h3:=ev_rel hx rel;rw [hev] at h3;have h4:=p_inv h3;have hxv:a.eval x= .string s:=by generalize a.eval x=xv at h4; cases h4; rfl
  have hb:=bounds_run (P:=P) (A:=A) (S:=S) (cap:=s.size) hlo hhi false hl hh h0 h1 h2 (Nat.le_refl _) rel;refine ⟨_,?_,.p _ _ (.s _)⟩;rw [execOp,ho];simp [hxv,Instr.sliceAt,Instr.slice,run_underlying hT,hb]
theorem ok_slice_own (hd:∀ t,o.dst=some t->t<n) {T e:TypeId} {x:Operand} {sx:SX} {lo hi:Option Operand} {slo shi:Option SX} {sz:Option Nat} {r g off len:Nat} {l h:Int} {T1:TypeId}
 (ho:o.op= .slice T x lo hi none) (hT:P.underlying T=some (.slice e)) (hsz:szOf P e=some sz) (hx:slimX P T1 x=some sx) (hlo:slimO P lo=some slo) (hhi:slimO P hi=some shi)
 (hev:S.ev sx= .own r g off len) (hl:lowV 0 (slo.map S.ev)=some l) (hh:lowV len (shi.map S.ev)=some h) (h0:0<=l) (h1:l<=h) (h2:h<=len)
 (hg:g=(S.h r).g) {T':TypeId} {xs:List V} (hobj:(S.h r).o=some (.arr T' sz xs)):
 OpOK P A w0 n o S (S.put o.dst (.own r g (off+l.toNat) (h.toNat-l.toNat))):=
 pure_ok hd λa w μ H rel=>by
  have h3:=ev_rel hx rel;rw [hev] at h3;have h4:=own_inv h3 hg;have hw:(S.h r).width=width sz:=by simp [HC.width,hobj,HObj.width]
  rw [hw] at h4;obtain ⟨flat,hown,hflat⟩:=H.obj r _ hobj;rcases hown.2 with ⟨hnil,hn⟩ | ⟨b',cap,cur,hbase,hB,hheap,hcap,hmax,hcur,htake⟩
  . rw [hnil] at h4; simp only [SubOf] at h4;obtain ⟨hval,rfl,rfl⟩:=h4;have hl0:l.toNat=0:=by omega
    have hh0:h.toNat=0:=by omega
    have hb:=bounds_run (P:=P) (A:=A) (S:=S) (cap:=0) hlo hhi true hl hh h0 h1 h2 (by simp) rel;rw [hl0,hh0] at hb;refine ⟨.slice none 0 0,?_,.own _ _ _ _ _ hg (by rw [hnil]; simp [SubOf,hl0,hh0])⟩;rw [execOp,ho];simp [hval,Instr.sliceAt,Instr.slice,run_underlying hT,hb,run_sz hsz]
  . rw [hbase] at h4;simp only [SubOf] at h4;obtain ⟨bo,c,hval,hlc,hc⟩:=h4;have hb:=bounds_run (P:=P) (A:=A) (S:=S) (cap:=c) hlo hhi true hl hh h0 h1 h2 hlc rel;refine ⟨.slice (if c=l.toNat then some ⟨b',bo,none⟩ else some ⟨b',bo+l.toNat*width sz,none⟩) (h.toNat-l.toNat) (c-l.toNat),?_,.own _ _ _ _ _ hg ?_⟩
    . rw [execOp,ho];simp [hval,Instr.sliceAt,Instr.slice,run_underlying hT,hb,run_sz hsz,Addr.add_lit]
    . rw [hbase,hw];simp only [SubOf];by_cases hcl:c=l.toNat
      . rw [if_pos hcl];refine ⟨_,_,rfl,by omega,?_⟩;rcases hc with hc | ⟨hc,hc'⟩
        . exact .inl (by omega)
        . by_cases h0:cap=0
          . refine .inr ⟨?_,by omega⟩;have e0:off=0:=by omega
            have e1:l.toNat=0:=by omega
            rw [hc,e0,e1]
          . exact .inl (by omega)
      . rw [if_neg hcl];rcases hc with hc | ⟨hc,hc'⟩
        . omega
        . subst hc;exact ⟨_,_,rfl,by omega,.inr ⟨by simp [Nat.add_mul],by omega⟩⟩
theorem ok_len (hd:∀ t,o.dst=some t->t<n) {T e:TypeId} {c:Call} {x:Operand} {sx:SX} {sz:Option Nat} {xs:List V} {T1:TypeId}
 (ho:o.op= .call c) (hc:c.callee= .builtin .len) (ha:c.args.toList=[x]) (ht:c.argTypes.toList=[T]) (hT:P.underlying T=some (.slice e)) (hx:slimX P T1 x=some sx)
 (hev:S.ev sx= .p (.sl sz xs)):OpOK P A w0 n o S (S.put o.dst (.p (.i .i64 xs.length))):=
 pure_ok hd λa w μ H rel=>by
  have h3:=ev_rel hx rel;rw [hev] at h3;have h4:=p_inv h3;have ha':c.args=#[x]:=by apply Array.ext'; simpa using ha
  have ht':c.argTypes=#[T]:=by apply Array.ext'; simpa using ht
  refine ⟨_,?_,.p _ _ (.i _ _)⟩;rw [execOp,ho];generalize hv:a.eval x=val at*
  cases h4 with
  | nil=>simp [resolve,hc,ha',ht',invoke,builtin,hv,Builtin.len_,run_underlying hT,goInt]
  | void=>simp [resolve,hc,ha',ht',invoke,builtin,hv,Builtin.len_,run_underlying hT,goInt]
  | sl _ _ b off len cap vals hlen hok hcap hrel hsh hcell=>
   subst hlen;simp [resolve,hc,ha',ht',invoke,builtin,hv,Builtin.len_,run_underlying hT,goInt]
theorem ok_len_str (hd:∀ t,o.dst=some t->t<n) {T:TypeId} {c:Call} {x:Operand} {sx:SX} {s:ByteArray} {T1:TypeId}
 (ho:o.op= .call c) (hc:c.callee= .builtin .len) (ha:c.args.toList=[x]) (ht:c.argTypes.toList=[T]) (hT:P.underlying T=some .string) (hx:slimX P T1 x=some sx)
 (hev:S.ev sx= .p (.s s)):OpOK P A w0 n o S (S.put o.dst (.p (.i .i64 s.size))):=
 pure_ok hd λa w μ H rel=>by
  have h3:=ev_rel hx rel;rw [hev] at h3;have h4:=p_inv h3;have ha':c.args=#[x]:=by apply Array.ext'; simpa using ha
  have ht':c.argTypes=#[T]:=by apply Array.ext'; simpa using ht
  have hxv:a.eval x= .string s:=by generalize a.eval x=xv at h4; cases h4; rfl
  refine ⟨_,?_,.p _ _ (.i _ _)⟩;rw [execOp,ho];simp [resolve,hc,ha',ht',invoke,builtin,hxv,Builtin.len_,run_underlying hT,goInt]
theorem sub_len {base:Value} {wd off len:Nat} {val:Value} (h:SubOf base wd off len val):∃ a c,val= .slice a len c:=by
 unfold SubOf at h;split at h
 . exact ⟨none,0,by rw [h.1,h.2.2]⟩
 . obtain ⟨b,c,h,_⟩:=h; exact ⟨_,_,h⟩
 . exact h.elim
theorem ok_len_own (hd:∀ t,o.dst=some t->t<n) {T e:TypeId} {c:Call} {x:Operand} {sx:SX} {r g off len:Nat} {T1:TypeId}
 (ho:o.op= .call c) (hc:c.callee= .builtin .len) (ha:c.args.toList=[x]) (ht:c.argTypes.toList=[T]) (hT:P.underlying T=some (.slice e)) (hx:slimX P T1 x=some sx)
 (hev:S.ev sx= .own r g off len) (hg:g=(S.h r).g):OpOK P A w0 n o S (S.put o.dst (.p (.i .i64 len))):=
 pure_ok hd λa w μ H rel=>by
  have h3:=ev_rel hx rel;rw [hev] at h3;obtain ⟨ad,cc,hval⟩:=sub_len (own_inv h3 hg);have ha':c.args=#[x]:=by apply Array.ext'; simpa using ha
  have ht':c.argTypes=#[T]:=by apply Array.ext'; simpa using ht
  refine ⟨_,?_,.p _ _ (.i _ _)⟩;rw [execOp,ho];simp [resolve,hc,ha',ht',invoke,builtin,hval,Builtin.len_,run_underlying hT,goInt]
end
end Go.Vw
namespace Go.Vw
open Go.RowKit (Below)
section
variable {P:Program} {A:Nat->Prop} {w0:Base} {n:Nat} {o:Oper} {S:St}
theorem int_inv {w:World} {ok:Nat->Prop} {k:IntKind} {i:Int} {val:Value} (h:RelV w ok (.i k i) val):val= .int k i:=by cases h; rfl
theorem bool_inv {w:World} {ok:Nat->Prop} {b:Bool} {val:Value} (h:RelV w ok (.b b) val):val= .bool b:=by cases h; rfl
theorem str_inv {w:World} {ok:Nat->Prop} {s:ByteArray} {val:Value} (h:RelV w ok (.s s) val):val= .string s:=by cases h; rfl
theorem p_of {T:TypeId} {x:Operand} {sx:SX} (hx:slimX P T x=some sx) {v:V} (hev:S.ev sx= .p v) {a:Act} {w:World} {μ:Nat->Value}
 (rel:∀ t,RelS w (okOf A w μ S.h) μ S.h (S.σ t) (a.tmps.getD t undef)):RelV w (okOf A w μ S.h) v (a.eval x):=by
 have h1:=ev_rel hx rel;rw [hev] at h1;exact p_inv h1
def V.out:V->Value
 | .b x=>.bool x
 | .i k n=>.int k n
 | .s x=>.string x
 | _=>undef
theorem abin_out {op:BinOp} {va vb v:V} {c:Prop} (hb:abin op va vb=some (c,v)) (w:World) (ok:Nat->Prop):RelV w ok v v.out:=by
 cases va<;>cases vb<;>cases op<;>simp only [abin,Option.some.injEq,Prod.mk.injEq,reduceCtorEq] at hb<;>obtain ⟨_,rfl⟩:=hb<;>first | exact .i _ _ | exact .b _ | exact .s _
theorem bin_int {op:BinOp} {k k':IntKind} {i i':Int} {v:V} {c:Prop} (hb:abin op (.i k i) (.i k' i')=some (c,v)) (hc:c) (T:TypeId) (w:World):
 (binOp op T (.int k i) (.int k' i')).run P w= .ok v.out w:=by
 cases op
 case shl=>
  simp only [abin,Option.some.injEq,Prod.mk.injEq] at hb;obtain ⟨rfl,rfl⟩:=hb;have hn:¬ i'<0:=by omega
  simp [binOp,Op.shift,hn,V.out]
 case shr=>
  simp only [abin,Option.some.injEq,Prod.mk.injEq] at hb;obtain ⟨rfl,rfl⟩:=hb;have hn:¬ i'<0:=by omega
  simp [binOp,Op.shift,hn,V.out]
 case quo=>
  simp only [abin,Option.some.injEq,Prod.mk.injEq] at hb;obtain ⟨rfl,rfl⟩:=hb;obtain ⟨rfl,hn⟩:=hc;simp [binOp,Op.intDiv,hn,V.out]
 case rem=>
  simp only [abin,Option.some.injEq,Prod.mk.injEq] at hb;obtain ⟨rfl,rfl⟩:=hb;obtain ⟨rfl,hn⟩:=hc;simp [binOp,Op.intDiv,hn,V.out]
 all_goals
  simp only [abin,Option.some.injEq,Prod.mk.injEq] at hb;obtain ⟨rfl,rfl⟩:=hb;subst hc;simp [binOp,Op.intArith,Op.intBits,Op.intCmp,V.out]
theorem bin_str {op:BinOp} {s s':ByteArray} {v:V} {c:Prop} (hb:abin op (.s s) (.s s')=some (c,v)) (hc:c) (T:TypeId) (w:World):
 (binOp op T (.string s) (.string s')).run P w= .ok v.out w:=by
 cases op<;>simp only [abin,Option.some.injEq,Prod.mk.injEq,reduceCtorEq] at hb<;>obtain ⟨rfl,rfl⟩:=hb
 . have hn:¬ (IntKind.i64.max<((s.size+s'.size:Nat):Int)):=by omega
   simp only [binOp,Op.stringOp,V.out];rw [if_neg (by omega)];rfl
 all_goals simp [binOp,Op.stringOp,V.out]
theorem ok_bin (hd:∀ t,o.dst=some t->t<n) {op:BinOp} {T Ty T1 T2:TypeId} {x y:Operand} {sx sy:SX} {va vb v:V} {c:Prop}
 (ho:o.op= .binOp op T x y Ty) (hx:slimX P T1 x=some sx) (hy:slimX P T2 y=some sy) (hev:S.ev sx= .p va) (hev':S.ev sy= .p vb) (hb:abin op va vb=some (c,v)) (hc:c):
 OpOK P A w0 n o S (S.put o.dst (.p v)):=
 pure_ok hd λa w μ H rel=>by
  have h1:=p_of hx hev rel;have h2:=p_of hy hev' rel;refine ⟨v.out,?_,.p _ _ (abin_out hb _ _)⟩;rw [execOp,ho];cases va with
  | i k i=>
   cases vb with
   | i k' i'=>simp [int_inv h1,int_inv h2,bin_int hb hc,eqGuard_at_int]
   | _=>simp [abin] at hb
  | s s=>
   cases vb with
   | s s'=>simp [str_inv h1,str_inv h2,bin_str hb hc,eqGuard_at_string]
   | _=>simp [abin] at hb
  | _=>simp [abin] at hb
theorem equalIn_bool {T:TypeId} (hT:P.underlying T=some .bool) (b c:Bool) (w:World) (d:Nat):(Op.equalIn (d+1) T (.bool b) (.bool c)).run P w= .ok (b == c) w:=by
 simp [Op.equalIn,run_underlying hT]
theorem ok_eqb (hd:∀ t,o.dst=some t->t<n) {op:BinOp} {neg:Bool} {T Ty T1 T2:TypeId} {x y:Operand} {sx sy:SX} {b c:Bool}
 (ho:o.op= .binOp op T x y Ty) (hop:op=if neg then .neq else .eql) (hT:P.underlying T=some .bool) (hx:slimX P T1 x=some sx) (hy:slimX P T2 y=some sy) (hev:S.ev sx= .p (.b b)) (hev':S.ev sy= .p (.b c)):
 OpOK P A w0 n o S (S.put o.dst (.p (.b (if neg then b != c else b == c)))):=
 pure_ok hd λa w μ H rel=>by
  have e1:=bool_inv (p_of hx hev rel);have e2:=bool_inv (p_of hy hev' rel);have heq:(Op.equal T (.bool b) (.bool c)).run P w= .ok (b == c) w:=equalIn_bool hT b c w 9999;refine ⟨_,?_,.p _ _ (.b _)⟩;rw [execOp,ho,hop];cases neg
  . simp [e1,e2,eqGuard,binOp,heq]
  . simp [e1,e2,eqGuard,binOp,heq,bne]
theorem ok_un (hd:∀ t,o.dst=some t->t<n) {op:UnOp} {T T1:TypeId} {x:Operand} {sx:SX} {va v:V}
 (ho:o.op= .unOp op T x) (hx:slimX P T1 x=some sx) (hev:S.ev sx= .p va) (hb:aun op va=some v):OpOK P A w0 n o S (S.put o.dst (.p v)):=
 pure_ok hd λa w μ H rel=>by
  have h1:=p_of hx hev rel;cases va with
  | b b=>
   have e1:=bool_inv h1;cases op<;>simp only [aun,Option.some.injEq,reduceCtorEq] at hb;subst hb;refine ⟨_,?_,.p _ _ (.b _)⟩;rw [execOp,ho]; simp [e1,Op.unary]
  | i k i=>
   have e1:=int_inv h1;cases op<;>simp only [aun,Option.some.injEq,reduceCtorEq] at hb<;>subst hb<;>refine ⟨_,?_,.p _ _ (.i _ _)⟩<;>
    (rw [execOp,ho]; simp [e1,Op.unary,Op.intArith,Op.intBits])
  | _=>simp [aun] at hb
theorem ok_conv (hd:∀ t,o.dst=some t->t<n) {src dst T1:TypeId} {x:Operand} {sx:SX} {k k' k'':IntKind} {i:Int}
 (ho:o.op= .convert src dst x) (hs:P.underlying src=some (.int k')) (hdst:P.underlying dst=some (.int k)) (hx:slimX P T1 x=some sx) (hev:S.ev sx= .p (.i k'' i)):
 OpOK P A w0 n o S (S.put o.dst (.p (.i k (k.wrap i)))):=
 pure_ok hd λa w μ H rel=>by
  have e1:=int_inv (p_of hx hev rel);refine ⟨_,?_,.p _ _ (.i _ _)⟩;rw [execOp,ho]; simp [e1,convert,run_underlying hs,run_underlying hdst,Conv.intToInt]
theorem plains_rel {a:Act} {w:World} {μ:Nat->Value} (rel:∀ t,RelS w (okOf A w μ S.h) μ S.h (S.σ t) (a.tmps.getD t undef)):
 ∀ (xs:List Operand) (ts:List TypeId) (sx:List SX) (vs:List V),slimXs P xs ts=some sx->plains (sx.map S.ev)=some vs->
  vs.length=xs.length/\∀ j (h:j<vs.length),RelV w (okOf A w μ S.h) (vs[j]) ((xs.map a.eval).getD j undef)
 | [],_,sx,vs,h1,h2=>by
  simp only [slimXs,Option.some.injEq] at h1; subst h1;simp only [List.map_nil,plains,Option.some.injEq] at h2; subst h2;exact ⟨rfl,by simp⟩
 | x::xs,ts,sx,vs,h1,h2=>by
  simp only [slimXs] at h1;split at h1
  . rename_i s1 r hx hr;simp only [Option.some.injEq] at h1; subst h1;simp only [List.map_cons] at h2;cases hev:S.ev s1 with
    | p v=>
     rw [hev] at h2;simp only [plains,Option.map_eq_some_iff] at h2;obtain ⟨vs',h2,rfl⟩:=h2;obtain ⟨i1,i2⟩:=plains_rel rel xs _ r vs' hr h2;refine ⟨by simp [i1],λj hj=>?_⟩;cases j with
     | zero=>simpa [List.getD] using p_of hx hev rel
     | succ j=>have:=i2 j (by simpa using hj); simpa [List.getD] using this
    | _=>rw [hev] at h2; simp [plains] at h2
  . cases h1
theorem ok_makeFn (hd:∀ t,o.dst=some t->t<n) {f:FuncId} {first caps:Array Operand} {sx:List SX} {vs:List V} {ts:List TypeId}
 (ho:o.op= .makeFunc (.func f) first caps) (hfirst:first.size=0) (hx:slimXs P caps.toList ts=some sx) (hev:plains (sx.map S.ev)=some vs):
 OpOK P A w0 n o S (S.put o.dst (.p (.clo f vs))):=
 pure_ok hd λa w μ H rel=>by
  obtain ⟨h1,h2⟩:=plains_rel rel _ _ _ _ hx hev;have hf:first=#[]:=Array.eq_empty_of_size_eq_zero hfirst
  refine ⟨.func (.func f) #[] (caps.map a.eval),?_,.p _ _ (.clo f vs _ (by simpa using h1.symm) λj hj=>?_)⟩
  . rw [execOp,ho]; simp [Instr.makeFunc,hf]
  . have:=h2 j hj
    simpa [List.getD,Array.getD_eq_getD_getElem?] using this
theorem ok_makeB (hd:∀ t,o.dst=some t->t<n) {f:FuncId} {first caps:Array Operand} {x:Operand} {sx:SX} {r g:Nat} {T1:TypeId}
 (ho:o.op= .makeFunc (.func f) first caps) (hfirst:first.toList=[x]) (hcaps:caps.size=0) (hx:slimX P T1 x=some sx) (hev:S.ev sx= .ptr r g 0) (hg:g=(S.h r).g):
 OpOK P A w0 n o S (S.put o.dst (.bnd f r g)):=
 pure_ok hd λa w μ H rel=>by
  have h:=ev_rel hx rel;rw [hev] at h;have hf:first=#[x]:=by
   apply Array.ext'
   simpa using hfirst
  have hc:caps=#[]:=Array.eq_empty_of_size_eq_zero hcaps;refine ⟨.func (.func f) #[a.eval x] #[],?_,.bnd f r g _ hg (ptr_inv h hg)⟩;rw [execOp,ho]; simp [Instr.makeFunc,hf,hc]
theorem ok_mm (hd:∀ t,o.dst=some t->t<n) {c:Call} {x y:Operand} {sx sy:SX} {isMax:Bool} {k k':IntKind} {i i':Int} {T1 T2:TypeId}
 (ho:o.op= .call c) (hc:c.callee= .builtin (if isMax then .max else .min)) (ha:c.args.toList=[x,y]) (hx:slimX P T1 x=some sx) (hy:slimX P T2 y=some sy)
 (hev:S.ev sx= .p (.i k i)) (hev':S.ev sy= .p (.i k' i')):
 OpOK P A w0 n o S (S.put o.dst (.p (.i k (if isMax then (if i'>i then i' else i) else (if i'<i then i' else i))))):=
 pure_ok hd λa w μ H rel=>by
  have e1:=int_inv (p_of hx hev rel);have e2:=int_inv (p_of hy hev' rel);have ha':c.args=#[x,y]:=by apply Array.ext'; simpa using ha
  refine ⟨_,?_,.p _ _ (.i _ _)⟩;rw [execOp,ho];cases isMax
  . simp [resolve,hc,ha',invoke,builtin,e1,e2,Builtin.min_,Builtin.min2]
  . simp [resolve,hc,ha',invoke,builtin,e1,e2,Builtin.max_,Builtin.max2]
theorem tup_inv {w:World} {ok:Nat->Prop} {μ:Nat->Value} {h:Nat->HC} {vs:List SV} {val:Value} (hs:RelS w ok μ h (.tup vs) val):
 ∃ vals,val= .tuple vals/\vals.size=vs.length/\∀ j (hj:j<vs.length),RelS w ok μ h (vs[j]) (vals.getD j undef):=by
 cases hs with
 | tup _ vals hlen hrel=>exact ⟨vals,rfl,hlen,hrel⟩
theorem ok_extract (hd:∀ t,o.dst=some t->t<n) {x:Operand} {sx:SX} {j:Nat} {vs:List SV} {T1:TypeId}
 (ho:o.op= .extract x j) (hx:slimX P T1 x=some sx) (hev:S.ev sx= .tup vs) (hj:j<vs.length):OpOK P A w0 n o S (S.put o.dst (vs.getD j .any)):=
 pure_ok hd λa w μ H rel=>by
  have h1:=ev_rel hx rel;rw [hev] at h1;obtain ⟨vals,hval,hlen,hrel⟩:=tup_inv h1;refine ⟨vals.getD j undef,?_,?_⟩
  . rw [execOp,ho];have hj':j<vals.size:=by omega
    simp [hval,Instr.extract,hj',Array.getD]
  . rw [getD_lt _ _ hj]; exact hrel j hj
theorem ok_nilCheck_ptr (hd:∀ t,o.dst=some t->t<n) {x:Operand} {sx:SX} {r g j:Nat} {T1:TypeId}
 (ho:o.op= .nilCheck x) (hx:slimX P T1 x=some sx) (hev:S.ev sx= .ptr r g j) (hg:g=(S.h r).g):OpOK P A w0 n o S (S.put o.dst (.ptr r g j)):=
 pure_ok hd λa w μ H rel=>by
  have h1:=ev_rel hx rel;rw [hev] at h1;obtain ⟨b,hb,hval⟩:=ptr_inv h1 hg;refine ⟨a.eval x,?_,h1⟩;rw [execOp,ho]; simp [hval]
theorem ok_nilCheck_ref (hd:∀ t,o.dst=some t->t<n) {x:Operand} {sx:SX} {sz:Option Nat} {v:V} {T1:TypeId}
 (ho:o.op= .nilCheck x) (hx:slimX P T1 x=some sx) (hev:S.ev sx= .p (.ref sz v)):OpOK P A w0 n o S (S.put o.dst (.p (.ref sz v))):=
 pure_ok hd λa w μ H rel=>by
  have h1:=ev_rel hx rel;rw [hev] at h1;have h2:=p_inv h1;refine ⟨a.eval x,?_,h1⟩;simp only [execOp,ho];generalize a.eval x=val at*
  cases h2;simp
theorem ok_nilCheck_clo (hd:∀ t,o.dst=some t->t<n) {x:Operand} {sx:SX} {f:FuncId} {cs:List V} {T1:TypeId}
 (ho:o.op= .nilCheck x) (hx:slimX P T1 x=some sx) (hev:S.ev sx= .p (.clo f cs)):OpOK P A w0 n o S (S.put o.dst (.p (.clo f cs))):=
 pure_ok hd λa w μ H rel=>by
  have h1:=ev_rel hx rel;rw [hev] at h1;have h2:=p_inv h1;refine ⟨a.eval x,?_,h1⟩;simp only [execOp,ho];generalize a.eval x=val at*
  cases h2;simp
end
end Go.Vw
namespace Go.Vw
open Go.RowKit (Below)
section
variable {P:Program} {A:Nat->Prop} {w0:Base} {n:Nat} {o:Oper} {S:St}
theorem range_mod {L:Array Value} {wd:Nat} (hL:L.size=wd) (hpos:0<wd):∀ c:Nat,
 (List.range (c*wd)).map (λi=>L[i%wd]!)=(List.replicate c L.toList).flatten
 | 0=>by simp
 | c+1=>by
  have ih:=range_mod hL hpos c;rw [show (c+1)*wd=c*wd+wd by rw [Nat.add_mul]; omega,List.range_add,List.map_append,ih,List.map_map,List.replicate_succ',List.flatten_append];congr 1;simp only [List.flatten_cons,List.flatten_nil,List.append_nil];apply List.ext_getElem
  . simp [hL]
  . intro i h1 h2;have hi:i<wd:=by simpa using h1
    have hm:(c*wd+i)%wd=i:=by rw [Nat.mul_comm,Nat.mul_add_mod,Nat.mod_eq_of_lt hi]
    simp [hm,hL,hi]
theorem flat_replicate (z:Value):∀ c:Nat,(List.replicate c z).flatMap (·.cells.toList)=(List.replicate c z.cells.toList).flatten
 | 0=>rfl
 | c+1=>by rw [List.replicate_succ,List.flatMap_cons,flat_replicate z c,List.replicate_succ,List.flatten_cons]
theorem RelFlat.replicate {w:World} {ok:Nat->Prop} {sz:Option Nat} {v:V} {z:Value} (h:RelV w ok v z) (hs:Shape sz z) (c:Nat):
 RelFlat w ok sz (List.replicate c v) (List.replicate c z.cells.toList).flatten:=by
 refine ⟨List.replicate c z,by simp,λj hj=>?_,λx hx=>?_,(flat_replicate z c).symm⟩
 . have hj':j<c:=by simpa using hj
   simpa [List.getD,hj'] using h
 . rw [List.eq_of_mem_replicate hx]; exact hs
theorem sameOpd_eval {x y:Operand} (h:sameOpd x y=true) {a:Act} {k:IntKind} {i:Int} (hx:a.eval x= .int k i):∃ k',a.eval y= .int k' i:=by
 unfold sameOpd at h;split at h
 . simp at h; subst h; exact ⟨k,hx⟩
 . simp at h; subst h;simp only [Act.eval,Value.int.injEq] at hx;exact ⟨_,by simp [Act.eval,hx.2]; rfl⟩
 . cases h
theorem run_mk {T e:TypeId} {l c:Operand} {sl:SX} {sz:Option Nat} {zv:V} {k:IntKind} {i:Int} {T1:TypeId} {ti:TypeInfo}
 (ho:o.op= .makeSlice T l c) (hT:P.underlying T=some (.slice e)) (hsz:szOf P e=some sz) (hzv:zeroV P e=some zv) (hti:P.info? e=some ti) (hx:slimX P T1 l=some sl) (hsame:sameOpd l c=true)
 (hpos:0<width sz) (hev:S.ev sl= .p (.i k i)) (h0:0<=i) (hb:i*ti.bytes<=2^47) (h47:i<=2^47)
 {a:Act} {w:World} {μ:Nat->Value} (rel:∀ t,RelS w (okOf A w μ S.h) μ S.h (S.σ t) (a.tmps.getD t undef)):
 ∃ cells:Array Value,cells.size=i.toNat*width sz/\(∀ w ok,RelFlat w ok sz (List.replicate i.toNat zv) cells.toList)/\
  (execOp a.eval o).run P w= .ok (.value (.slice (some ⟨w.heap.size,0,none⟩) i.toNat i.toNat)) (w.alloc (.cells cells e)):=by
 obtain ⟨sz',ti',z,z',hs',hi,hz,hzc,hsh,hrel⟩:=zeroV_spec hzv;rw [hsz,Option.some.injEq] at hs'; subst hs';rw [hti,Option.some.injEq] at hi; subst hi;have e1:=int_inv (p_of hx hev rel);obtain ⟨k',e2⟩:=sameOpd_eval hsame e1;obtain ⟨d,ti',_,hi',hsize,_⟩:=szOf_spec hsz;rw [hti,Option.some.injEq] at hi'; subst hi';have hr:=run_make (P:=P) w T e ti z hT hti hz k k' i i h0 (Int.le_refl _) (by rw [Int.mul_comm]; omega) (by omega);have hzs:z.cells.size=width sz:=by rw [<- hzc]; exact hsh.size
 refine ⟨madeCells z.cells (i.toNat*ti.size),by rw [size_madeCells,hsize],λw ok=>?_,?_⟩
 . have e3:(madeCells z.cells (i.toNat*ti.size)).toList=(List.replicate i.toNat z'.cells.toList).flatten:=by
    rw [hzc,<-range_mod hzs hpos i.toNat,hsize];simp [madeCells,hzs]
   rw [e3];exact RelFlat.replicate (hrel w ok) hsh _
 . rw [execOp,ho];simp [e1,e2,hr]
theorem ok_make (hd:∀ t,o.dst=some t->t<n) {T e:TypeId} {l c:Operand} {sl:SX} {sz:Option Nat} {zv:V} {k:IntKind} {i:Int} {T1:TypeId} {ti:TypeInfo} {d:Nat}
 (ho:o.op= .makeSlice T l c) (hT:P.underlying T=some (.slice e)) (hsz:szOf P e=some sz) (hzv:zeroV P e=some zv) (hti:P.info? e=some ti) (hx:slimX P T1 l=some sl) (hsame:sameOpd l c=true)
 (hpos:0<width sz) (hev:S.ev sl= .p (.i k i)) (h0:0<=i) (hb:i*ti.bytes<=2^47) (h47:i<=2^47):
 OpOK P A w0 n o S ((S.heap (some (d,⟨(S.h d).g+1,some (.arr e sz (List.replicate i.toNat zv))⟩))).put o.dst (.own d ((S.h d).g+1) 0 i.toNat)):=by
 intro a w hR;obtain ⟨μ,H,rel⟩:=hR.ex;obtain ⟨cells,c1,c2,c3⟩:=run_mk ho hT hsz hzv hti hx hsame hpos hev h0 hb h47 rel;refine ⟨_,_,c3,.inl ⟨_,rfl,?_⟩⟩;refine hR.alloc_own H rel hd d _ (.slice (some ⟨w.heap.size,0,none⟩) i.toNat i.toNat) cells e _ (λok hok hcell=>?_) (λb hb=>by simpa [blk] using hb.symm) _ (λw' ok=>?_)
 . refine ⟨cells.toList,?_,c2 _ _⟩;have:=ownsRow_new (w:=w) (B:=w0.B) (e:=e) (size:=width sz) (k:=i.toNat) (cells:=cells) (.inl hR.below.size) (by simp only [maxLen]; omega) c1
   simpa using this
 . refine .own _ _ _ _ _ (by simp) ?_;simp only [upd_same,SubOf];exact ⟨0,i.toNat,rfl,Nat.le_refl _,.inr ⟨by simp,by omega⟩⟩
theorem ok_make_pure (hd:∀ t,o.dst=some t->t<n) {T e:TypeId} {l c:Operand} {sl:SX} {sz:Option Nat} {zv:V} {k:IntKind} {i:Int} {T1:TypeId} {ti:TypeInfo}
 (ho:o.op= .makeSlice T l c) (hT:P.underlying T=some (.slice e)) (hsz:szOf P e=some sz) (hzv:zeroV P e=some zv) (hti:P.info? e=some ti) (hx:slimX P T1 l=some sl) (hsame:sameOpd l c=true)
 (hpos:0<width sz) (hev:S.ev sl= .p (.i k i)) (h0:0<=i) (hb:i*ti.bytes<=2^47) (h47:i<=2^47):
 OpOK P A w0 n o S (S.put o.dst (.p (.sl sz (List.replicate i.toNat zv)))):=by
 intro a w hR;obtain ⟨μ,H,rel⟩:=hR.ex;obtain ⟨cells,c1,c2,c3⟩:=run_mk ho hT hsz hzv hti hx hsame hpos hev h0 hb h47 rel;refine ⟨_,_,c3,.inl ⟨_,rfl,?_⟩⟩;refine hR.alloc_pure H rel hd _ _ _ λhnew hok hcell=>?_;have:=(c2 (w.alloc (.cells cells e)) (okOf A (w.alloc (.cells cells e)) μ S.h)).slice (g:=w.heap.size) (off:=0) (cap:=i.toNat) (rangeAt_of_row (heap_alloc_at w _) 0 cells.toList (λi c hc=>by simpa using hc)) hnew (by simp)
 simpa using this
theorem elems_rel {T:TypeId} {x:Operand} {sx:SX} (hx:slimX P T x=some sx) {sz:Option Nat} {c:Prop} {ys:List V} (hel:S.elems sz (S.ev sx)=some (c,ys)) (hc:c)
 {a:Act} {w:World} {μ:Nat->Value} (H:HeapOK A w w0 μ S.h) (rel:∀ t,RelS w (okOf A w μ S.h) μ S.h (S.σ t) (a.tmps.getD t undef)):
 ∃ f,RelFlat w (okOf A w μ S.h) sz ys f/\((a.eval x= .slice none 0 0/\ys=[])\/∃ ad cap,a.eval x= .slice (some ad) ys.length cap/\∀ j v,f[j]? =some v->w.cell? (ad.add j)=some v):=by
 have h1:=ev_rel hx rel;cases hev:S.ev sx with
 | p v=>
  rw [hev] at hel h1;cases v with
  | sl sz' xs=>
   simp only [St.elems,Option.some.injEq,Prod.mk.injEq] at hel;obtain ⟨rfl,rfl⟩:=hel;subst hc;obtain ⟨f,f1,f2⟩:=(p_inv h1).flat;refine ⟨f,f1,?_⟩;rcases f2 with ⟨a0,h2,rfl⟩ | ⟨g,off,cap,h2,h3,h4,h5⟩
   . cases a0 with
     | none=>exact .inl ⟨h2,rfl⟩
     | some a0=>
      refine .inr ⟨a0,0,h2,λj v hj=>?_⟩;have hl:=f1.length;rw [List.length_nil,Nat.zero_mul] at hl;rw [List.length_eq_zero_iff.1 hl] at hj;simp at hj
   . exact .inr ⟨⟨g,off,none⟩,cap,h2,λj v hj=>by rw [Addr.add_lit]; exact h5 j v hj⟩
  | _=>simp [St.elems] at hel
 | own r g off len=>
  rw [hev] at hel h1;simp only [St.elems] at hel;split at hel
  . rename_i T' sz' xs hobj;simp only [Option.some.injEq,Prod.mk.injEq] at hel;obtain ⟨rfl,rfl⟩:=hel;obtain ⟨hg,rfl,hle⟩:=hc;have h2:=own_inv h1 hg;obtain ⟨flat,hown,hflat⟩:=H.obj r _ hobj;have hw:(S.h r).width=width sz:=by simp [HC.width,hobj,HObj.width]
    rw [hw] at h2;have hf:=(hflat.drop off).take len;have hlen:((xs.drop off).take len).length=len:=by simp; omega
    rcases hown.2 with ⟨hnil,hn⟩ | ⟨b',cap,cur,hbase,hB,hheap,hcap,hmax,hcur,htake⟩
    . rw [hnil] at h2; simp only [SubOf] at h2;obtain ⟨hval,rfl,rfl⟩:=h2;exact ⟨_,hf,.inl ⟨hval,by simp⟩⟩
    . rw [hbase] at h2;simp only [SubOf] at h2;obtain ⟨b,c,hval,hlc,hc⟩:=h2;refine ⟨_,hf,.inr ⟨⟨b',b,none⟩,c,by rw [hlen]; exact hval,λj v hj=>?_⟩⟩;have hj0:=hj;rw [List.getElem?_take] at hj;split at hj
      . rename_i hjlt;rw [List.getElem?_drop] at hj;rcases hc with hc | ⟨hc,hc'⟩
        . have hl0:len=0:=by omega
          rw [hl0] at hjlt; omega
        . subst hc;rw [Addr.add_lit];have:=rangeAt_of_row hheap 0 flat (λi c hc=>by
           rw [<- htake,List.getElem?_take] at hc;split at hc
           . simpa using hc
           . cases hc)
          have:=this _ _ hj
          simpa using this
      . cases hj
  . cases hel
 | _=>rw [hev] at hel; simp [St.elems] at hel
structure AppRes (w:World) (B:Nat->Prop) (T:TypeId) (size k:Nat) (flat:List Value) (v v':Value) (w':World):Prop where
 own:owns w' B T size v' k flat
 grown:w.grownBy w' (blk v)
 at_:blk v'=blk v\/blk v'=some w.heap.size
theorem AppRes.refl {w:World} {B:Nat->Prop} {T:TypeId} {size k:Nat} {flat:List Value} {v:Value} (h:owns w B T size v k flat):AppRes w B T size k flat v v w:=
 ⟨h,⟨rfl,rfl,rfl,Nat.le_refl _,λ_ _ _=>rfl⟩,.inl rfl⟩
theorem AppRes.new {w:World} {B:Nat->Prop} {T:TypeId} {size k cap:Nat} {flat:List Value} {rest:Array Value} {v:Value} (hB:B w.heap.size) (hl:flat.length=k*size) (hk:k<=cap) (hm:cap<=maxLen)
 (hr:rest.size=(cap-k)*size):AppRes w B T size k flat v (.slice (some ⟨w.heap.size,0,none⟩) k cap) (w.drew.alloc (.cells (flat.toArray++rest) T)):=by
 refine ⟨⟨hl,.inr ⟨w.heap.size,cap,_,rfl,hB,heap_alloc_new w.drew _,hk,hm,?_,?_⟩⟩,⟨rfl,rfl,rfl,by simp,λb hb _=>heap_alloc_old w.drew _ b hb⟩,.inr rfl⟩
 . simp only [Array.size_append,List.size_toArray,hl,hr,<-Nat.add_mul];congr 1; omega
 . rw [Array.toList_append,<-hl]; exact List.take_left
theorem AppRes.room {w:World} {B:Nat->Prop} {T:TypeId} {size len m g cap:Nat} {cur:Array Value} {flat news:List Value} (hg:w.heap[g]? =some (.cells cur T (0,0))) (hB:B g)
 (hflat:cur.toList.take (len*size)=flat) (hl:flat.length=len*size) (hn:news.length=m*size) (hcap:len+m<=cap) (hm:cap<=maxLen) (hc:cur.size=cap*size):
 AppRes w B T size (len+m) (flat++news) (.slice (some ⟨g,0,none⟩) len cap) (.slice (some ⟨g,0,none⟩) (len+m) cap)
  (w.setRow g (cur.toList.take (len*size)++news++cur.toList.drop (len*size+news.length)).toArray):=by
 have hle:(len+m)*size<=cap*size:=Nat.mul_le_mul_right _ hcap;rw [Nat.add_mul] at hle;refine ⟨⟨by rw [List.length_append,hl,hn,Nat.add_mul],.inr ⟨g,cap,_,rfl,hB,setRow_heap w g cur _ T _ hg,hcap,hm,?_,?_⟩⟩,⟨rfl,rfl,rfl,by rw [size_setRow]; exact Nat.le_refl _,λk hk hne=>setRow_other w g k _ (λe=>hne (by simp [blk,e]))⟩,.inl rfl⟩
 . have hmin:min (len*size) (cap*size)=len*size:=Nat.min_eq_left (by omega);simp [hn,hc,hmin]; omega
 . rw [hflat];have:(len+m)*size=(flat++news).length:=by rw [List.length_append,hl,hn,Nat.add_mul]
   rw [this]; exact List.take_left
theorem RelSt.app {a:Act} {w w':World} (hR:RelSt A w0 n S a w) {μ:Nat->Value} (H:HeapOK A w w0 μ S.h)
 (rel:∀ t,RelS w (okOf A w μ S.h) μ S.h (S.σ t) (a.tmps.getD t undef)) (hd:∀ t,o.dst=some t->t<n) {r:Nat} {T:TypeId} {sz:Option Nat} {xs xs':List V} {flat':List Value} {v v':Value}
 (hobj:(S.h r).o=some (.arr T sz xs)) (hv:blk v=blk (μ r)) (hres:AppRes w w0.B T (width sz) xs'.length flat' v v' w') (hf:RelFlat w (okOf A w μ S.h) sz xs' flat') (pure:Bool):
 RelSt A w0 n ((S.heap (some (r,⟨(S.h r).g+1,if pure then none else some (.arr T sz xs')⟩))).put o.dst (if pure then .p (.sl sz xs') else .own r ((S.h r).g+1) 0 xs'.length)) (a.put o.dst v') w':=by
 have hlive:(S.h r).o≠none:=by rw [hobj]; simp
 have hlt:∀ b,blk (μ r)=some b->b<w.heap.size:=λb hb=>((H.obj r _ hobj).lt hb).2;have hBb:∀ b,blk (μ r)=some b->w0.B b:=λb hb=>((H.obj r _ hobj).lt hb).1;obtain ⟨H',k⟩:=H.change (w':=w') r ⟨(S.h r).g+1,if pure then none else some (.arr T sz xs')⟩ v' hres.grown.size
  (λb hb hne=>hres.grown.block b hb (λe=>hne hlive (by rw [<- hv,<-e])))
  (λb _ hb=>by
   rcases hres.at_ with h1 | h1
   . exact .inl ⟨hlive,by rw [<- hv,<-h1]; exact hb⟩
   . rw [h1] at hb; simp at hb; exact .inr (by omega))
  (λob hob hok hcell=>by
   cases pure
   . simp only [Bool.false_eq_true,if_false,Option.some.injEq] at hob; subst hob;exact ⟨flat',hres.own,hf.mono hok hcell⟩
   . simp at hob) (.inl (by simp))
 have hbelow:BelowX w0 w':=⟨hres.grown.os.trans hR.below.os,hres.grown.tape.trans hR.below.tape,hres.grown.output.trans hR.below.output,Nat.le_trans hR.below.size hres.grown.size,λb hb=>(hres.grown.block b (by
  have h1:¬ w0.w.heap.size<=b:=λe=>hb (.inl e);have:=hR.below.size;omega) (λe=>hb (hBb b (by rw [<- hv,<-e])))).trans (hR.below.block b hb)⟩
 refine RelSt.put' rel hR.size hR.defers hR.new H' k hbelow hd ?_;cases pure
 . refine .own _ _ _ _ _ (by simp) ?_;simp only [upd_same];rcases hres.own.2 with ⟨hnil,hn⟩ | ⟨b',cap,cur,hbase,hB,hheap,hcap,hmax,hcur,htake⟩
   . rw [hnil,hn]; simp [SubOf]
   . rw [hbase];exact ⟨_,_,rfl,hcap,.inr ⟨by simp,by omega⟩⟩
 . simp only [if_true];refine .p _ _ ?_;have hokb:∀ b,blk v'=some b->w0.B b->b<w'.heap.size->okOf A w' (upd μ r v') (upd S.h r ⟨(S.h r).g+1,none⟩) b:=by
    intro b hb hB hlt1;refine ⟨hR.new _ hB,hlt1,λr' hr' hb'=>?_⟩;by_cases e:r'=r
    . subst e; simp at hr'
    . rw [upd_ne _ _ e] at hr';rw [upd_ne _ _ e] at hb';obtain ⟨ob,hob⟩:=Option.ne_none_iff_exists'.1 hr';have hlt':=((H.obj r' ob hob).lt hb').2;rcases hres.at_ with h1 | h1
      . exact e (H.inj r' r b hr' hlive hb' (by rw [<- hv,<-h1]; exact hb))
      . rw [h1] at hb; simp at hb; omega
   have hfk:=hf.mono k.ok k.cell;simp only [if_true] at hfk;generalize okOf A w' (upd μ r v') (upd S.h r ⟨(S.h r).g+1,none⟩)=okk at hokb hfk ⊢;rcases hres.own.2 with ⟨hnil,hn⟩ | ⟨b',cap,cur,hbase,hB,hheap,hcap,hmax,hcur,htake⟩
   . have:xs'=[]:=List.eq_nil_of_length_eq_zero hn;rw [hnil,this]; exact .nil sz
   . have hb':=hokb b' (by rw [hbase]; rfl) hB (Array.getElem?_eq_some_iff.1 hheap).1;rw [hbase];refine hfk.slice (rangeAt_of_row hheap 0 flat' λi c hc=>?_) hb' hcap;rw [<- htake,List.getElem?_take] at hc;split at hc
     . simpa using hc
     . cases hc
theorem own_prefix {w:World} {B:Nat->Prop} {T:TypeId} {sz:Option Nat} {base val:Value} {k len:Nat} {flat:List Value} (hown:owns w B T (width sz) base k flat) (hs:SubOf base (width sz) 0 len val) (hle:len<=k):
 owns w B T (width sz) val len (flat.take (len*width sz))/\blk val=blk base:=by
 have hl:(flat.take (len*width sz)).length=len*width sz:=by
  rw [List.length_take,hown.1]; exact Nat.min_eq_left (Nat.mul_le_mul_right _ hle)
 rcases hown.2 with ⟨hnil,hn⟩ | ⟨b',cap,cur,hbase,hB,hheap,hcap,hmax,hcur,htake⟩
 . rw [hnil] at hs; simp only [SubOf] at hs;obtain ⟨hval,_,rfl⟩:=hs;exact ⟨⟨hl,.inl ⟨hval,rfl⟩⟩,by rw [hval,hnil]⟩
 . rw [hbase] at hs;simp only [SubOf] at hs;obtain ⟨b,c,hval,hlc,hc⟩:=hs;rcases hc with ⟨hc,hc',hc''⟩ | ⟨hc,hc'⟩
   . omega
   . subst hc;have:c=cap:=by omega
     subst this;simp only [Nat.zero_mul] at hval;refine ⟨⟨hl,.inr ⟨b',c,cur,hval,hB,hheap,by omega,hmax,hcur,?_⟩⟩,by rw [hval,hbase]; rfl⟩;rw [<- htake,List.take_take,Nat.min_eq_left (Nat.mul_le_mul_right _ hle)]
theorem run_app {T e:TypeId} {ti:TypeInfo} {sz:Option Nat} {z:Value} (hT:P.underlying T=some (.slice e)) (hti:P.info? e=some ti) (hz:ti.zero=some z) (hsize:ti.size=width sz) (hzs:z.cells.size=width sz) (hpos:0<width sz)
 {w:World} {B:Nat->Prop} (hB:B w.heap.size) {v:Value} {len:Nat} {flat:List Value} (hown:owns w B e (width sz) v len flat) (ty:TypeId) (y:Value) (m:Nat) (news:List Value) (hn:news.length=m*width sz)
 (hones:∀ u∈news,u.oneCell'=true)
 (hy:(y= .slice none 0 0/\m=0)\/∃ ad cap,y= .slice (some ad) m cap/\∀ j u,news[j]? =some u->w.cell? (ad.add j)=some u)
 (hb:(len+m)*ti.bytes<=2^47) (h47:len+m<=2^47):
 ∃ v' w',(Builtin.append_ #[T,T] ty #[v,y]).run P w= .ok v' w'/\AppRes w B e (width sz) (len+m) (flat++news) v v' w':=by
 rcases hy with ⟨rfl,rfl⟩ | ⟨ad,cap,rfl,hy⟩
 . have:news=[]:=List.eq_nil_of_length_eq_zero (by simpa using hn);subst this;refine ⟨v,w,run_append_owned_none w 0 T ty e ti (width sz) hT hti v len flat hown.row,?_⟩
   simpa using AppRes.refl hown
 . rcases hown.2 with ⟨rfl,rfl⟩ | ⟨g,cap',cur,rfl,hBg,hheap,hcap,hmax,hcur,htake⟩
   . have hx:flat=[]:=List.eq_nil_of_length_eq_zero (by simpa using hown.1);subst hx;by_cases hm:m=0
     . subst hm;have:news=[]:=List.eq_nil_of_length_eq_zero (by simpa using hn);subst this;refine ⟨.slice none 0 0,w,?_,by simpa using AppRes.refl hown⟩;simp [Builtin.append_,run_underlying hT,sizeOf,typeInfo,hti,Builtin.lenOf,Builtin.firstCells,loadCells,loadCellsFrom]
     . have hr:=run_append_nil (P:=P) w T ty e ti z hT hti hz ad m cap news (by rw [hsize]; exact hn) hy (by omega) (by omega) (by simp only [Nat.zero_add] at hb; omega);refine ⟨_,_,hr,?_⟩;simp only [Nat.zero_add,List.nil_append];exact AppRes.new hB hn (by simpa using grownCap_ge w m 0 e) (grownCap_le_maxLen w m 0 e (by simp only [maxLen]; omega)) (by rw [size_zeroCells,hzs])
   . by_cases hroom:len+m<=cap'
     . have hle:(len+m)*width sz<=cap'*width sz:=Nat.mul_le_mul_right _ hroom;rw [Nat.add_mul] at hle;have hr:=run_append_room (P:=P) w T ty e ti hT hti g len cap' cur hheap ad m cap news (by rw [hsize]; exact hn) hy hones hroom (by rw [hsize,hn,hcur]; omega);rw [hsize] at hr;exact ⟨_,_,hr,AppRes.room hheap hBg htake hown.1 hn hroom hmax hcur⟩
     . have holds:∀ j u,flat[j]? =some u->w.cell? ((⟨g,0,none⟩:Addr).add j)=some u:=hown.row.cells (g:=g) rfl;have hr:=run_append_grow (P:=P) w T ty e ti z hT hti hz ⟨g,0,none⟩ len cap' flat (by rw [hsize]; exact hown.1) holds ad m cap news (by rw [hsize]; exact hn) hy (by omega) (by omega) (growslice_fits (by omega) hb);refine ⟨_,_,hr,?_⟩;have hlen:(flat++news).length=(len+m)*width sz:=by rw [List.length_append,hown.1,hn,Nat.add_mul]
       have:=AppRes.new (v:=.slice (some ⟨g,0,none⟩) len cap') (T:=e) (rest:=Builtin.zeroCells z.cells (grownCap w (len+m) cap' e-(len+m))) hB hlen (grownCap_ge w (len+m) cap' e) (grownCap_le_maxLen w (len+m) cap' e (by simp only [maxLen]; omega)) (by rw [size_zeroCells,hzs])
       simpa using this
theorem ok_append (hd:∀ t,o.dst=some t->t<n) {T e:TypeId} {c:Call} {x y:Operand} {sx sy:SX} {sz:Option Nat} {zv:V} {ti:TypeInfo} {T1 T2:TypeId} {r g len:Nat} {xs ys:List V} {cy:Prop}
 (ho:o.op= .call c) (hc:c.callee= .builtin .append) (ha:c.args.toList=[x,y]) (ht:c.argTypes.toList=[T,T]) (hT:P.underlying T=some (.slice e))
 (hsz:szOf P e=some sz) (hzv:zeroV P e=some zv) (hti:P.info? e=some ti) (hpos:0<width sz) (hx:slimX P T1 x=some sx) (hy:slimX P T2 y=some sy)
 (hev:S.ev sx= .own r g 0 len) (hel:S.elems sz (S.ev sy)=some (cy,ys)) (hcy:cy) (hobj:(S.h r).o=some (.arr e sz xs)) (hg:g=(S.h r).g) (hle:len<=xs.length)
 (hb:(len+ys.length)*ti.bytes<=2^47) (h47:len+ys.length<=2^47) (pure:Bool):
 OpOK P A w0 n o S ((S.heap (some (r,⟨g+1,if pure then none else some (.arr e sz (xs.take len++ys))⟩))).put o.dst
  (if pure then .p (.sl sz (xs.take len++ys)) else .own r (g+1) 0 (len+ys.length))):=by
 intro a w hR;obtain ⟨μ,H,rel⟩:=hR.ex;obtain ⟨sz',ti',z,z',hs',hi,hz,hzc,hsh,hrel⟩:=zeroV_spec hzv;rw [hsz,Option.some.injEq] at hs'; subst hs';rw [hti,Option.some.injEq] at hi; subst hi;obtain ⟨d,ti',_,hi',hsize,_⟩:=szOf_spec hsz;rw [hti,Option.some.injEq] at hi'; subst hi';have hzs:z.cells.size=width sz:=by rw [<- hzc]; exact hsh.size
 have h1:=ev_rel hx rel;rw [hev] at h1;have h2:=own_inv h1 hg;have hw:(S.h r).width=width sz:=by simp [HC.width,hobj,HObj.width]
 rw [hw] at h2;obtain ⟨flat,hown,hflat⟩:=H.obj r _ hobj;obtain ⟨hpre,hblk⟩:=own_prefix hown h2 hle;obtain ⟨f,f1,f2⟩:=elems_rel hy hel hcy H rel;have hfl:=f1.length;have hB:w0.B w.heap.size:=.inl hR.below.size;obtain ⟨v',w',hr,hres⟩:=run_app hT hti hz hsize hzs hpos hB hpre o.type (a.eval y) ys.length f hfl f1.ones
  (by rcases f2 with ⟨h,rfl⟩ | h
      . exact .inl ⟨h,rfl⟩
      . exact .inr h) hb h47
 have ha':c.args=#[x,y]:=by apply Array.ext'; simpa using ha
 have ht':c.argTypes=#[T,T]:=by apply Array.ext'; simpa using ht
 have hrun:(execOp a.eval o).run P w= .ok (.value v') w':=by
  rw [execOp,ho];simp [resolve,hc,ha',ht',invoke,builtin,hr]
 subst hg;refine ⟨_,_,hrun,.inl ⟨_,rfl,?_⟩⟩;have hlen:(xs.take len++ys).length=len+ys.length:=by simp; omega
 have hf':RelFlat w (okOf A w μ S.h) sz (xs.take len++ys) (flat.take (len*width sz)++f):=(hflat.take len).append f1;rw [<- hlen] at hres ⊢;exact hR.app H rel hd hobj hblk hres hf' pure
end
end Go.Vw
namespace Go.Vw
open Go.RowKit (Below)
section
variable {P:Program} {A:Nat->Prop} {w0:Base} {n:Nat} {o:Oper} {S:St}
theorem St.ext_heap (S:St) (r:Nat) (c:HC) (h:S.h r=c):S.heap (some (r,c))=S:=by
 obtain ⟨σ,h'⟩:=S;simp only [St.heap,St.mk.injEq,true_and];funext t;simp only [upd];split
 . rename_i e; rw [e]; exact h.symm
 . rfl
theorem ok_copy (hd:∀ t,o.dst=some t->t<n) {T e T':TypeId} {c:Call} {x y:Operand} {sx sy:SX} {sz:Option Nat} {T1 T2:TypeId} {r g off len:Nat} {xs ys:List V} {cy:Prop}
 (ho:o.op= .call c) (hc:c.callee= .builtin .copy) (ha:c.args.toList=[x,y]) (ht:c.argTypes.toList=[T,T]) (hT:P.underlying T=some (.slice e))
 (hsz:szOf P e=some sz) (hx:slimX P T1 x=some sx) (hy:slimX P T2 y=some sy)
 (hev:S.ev sx= .own r g off len) (hel:S.elems sz (S.ev sy)=some (cy,ys)) (hcy:cy) (hobj:(S.h r).o=some (.arr T' sz xs)) (hg:g=(S.h r).g) (hle:off+len<=xs.length):
 OpOK P A w0 n o S ((S.heap (some (r,⟨g,some (.arr T' sz (xs.take off++ys.take (min ys.length len)++xs.drop (off+min ys.length len)))⟩))).put o.dst (.p (.i .i64 ((min ys.length len:Nat):Int)))):=by
 intro a w hR;obtain ⟨μ,H,rel⟩:=hR.ex;have h1:=ev_rel hx rel;rw [hev] at h1;have h2:=own_inv h1 hg;have hw:(S.h r).width=width sz:=by simp [HC.width,hobj,HObj.width]
 rw [hw] at h2;obtain ⟨flat,hown,hflat⟩:=H.obj r _ hobj;obtain ⟨f,f1,f2⟩:=elems_rel hy hel hcy H rel;have hfl:=f1.length;have ha':c.args=#[x,y]:=by apply Array.ext'; simpa using ha
 have ht':c.argTypes=#[T,T]:=by apply Array.ext'; simpa using ht
 obtain ⟨ad,cc,hval⟩:=sub_len h2;have hlenOf:(Builtin.lenOf (a.eval y)).run P w= .ok ys.length w:=by
  rcases f2 with ⟨h,rfl⟩ | ⟨ad,cap,h,_⟩<;>rw [h]<;>rfl
 have hfirst:(Builtin.firstCells (width sz) (min ys.length len) (a.eval y)).run P w= .ok (f.take (min ys.length len*width sz)).toArray w:=by
  rcases f2 with ⟨h,rfl⟩ | ⟨ad,cap,h,hcell⟩
  . rw [h,run_firstCells_none];have:f=[]:=List.eq_nil_of_length_eq_zero (by simpa using hfl);simp [this]
  . rw [h];refine run_firstCells_some w _ _ _ _ _ _ ?_ λj v hj=>?_
    . rw [List.length_take,hfl]; exact Nat.min_eq_left (Nat.mul_le_mul_right _ (Nat.min_le_left _ _))
    . rw [List.getElem?_take] at hj;split at hj
      . exact hcell j v hj
      . cases hj
 subst hg;by_cases h0:min ys.length len=0
 . have hsame:(xs.take off++ys.take (min ys.length len)++xs.drop (off+min ys.length len))=xs:=by rw [h0]; simp
   have hzero:(f.take (min ys.length len*width sz)).toArray=#[]:=by rw [h0]; simp
   have hrun:(execOp a.eval o).run P w= .ok (.value (.int .i64 ((min ys.length len:Nat):Int))) w:=by
    rw [execOp,ho];rw [hzero,h0] at hfirst;have hmin:Nat.min ys.length len=0:=h0;rw [h0];cases ad<;>simp [resolve,hc,ha',ht',invoke,builtin,hval,Builtin.copy_,run_underlying hT,hlenOf,run_sz hsz,hmin,hfirst,goInt,storeCells]
   refine ⟨_,_,hrun,.inl ⟨_,rfl,?_⟩⟩;rw [hsame,St.ext_heap S r _ (by generalize hh:S.h r=hc at *; cases hc; simp_all)];exact RelSt.put' rel hR.size hR.defers hR.new H (Keeps.refl A w μ S.h) hR.below hd (.p _ _ (.i _ _))
 . rcases hown.2 with ⟨hnil,hn⟩ | ⟨b',cap,cur,hbase,hB,hheap,hcap,hmax,hcur,htake⟩
   . rw [hnil] at h2; simp only [SubOf] at h2; omega
   . have h2':=h2;rw [hbase] at h2';simp only [SubOf] at h2';obtain ⟨b,c',hval',hlc,hcc⟩:=h2';rcases hcc with hcc | ⟨hcc,hcc'⟩
     . omega
     . subst hcc;rw [hval'] at hval;simp only [Value.slice.injEq] at hval;obtain ⟨rfl,_,rfl⟩:=hval;have hm:min ys.length len<=len:=Nat.min_le_right _ _;have hm2:min ys.length len<=ys.length:=Nat.min_le_left _ _;generalize hmm:min ys.length len=m at*
       have hfm:(f.take (m*width sz)).length=m*width sz:=by rw [List.length_take,hfl]; exact Nat.min_eq_left (Nat.mul_le_mul_right _ hm2)
       have hom:(off+m)*width sz<=xs.length*width sz:=Nat.mul_le_mul_right _ (by omega);have hxc:xs.length*width sz<=cap*width sz:=Nat.mul_le_mul_right _ hcap;have hadd:(off+m)*width sz=off*width sz+m*width sz:=Nat.add_mul _ _ _;have hst:=run_storeCells_at P b' (off*width sz) T' (f.take (m*width sz)) 0 cur w hheap (by rw [hfm]; omega) (λu hu=>f1.ones u (List.mem_of_mem_take hu));simp only [Nat.add_zero,hfm] at hst;have hrun:(execOp a.eval o).run P w= .ok (.value (.int .i64 (m:Int))) (w.setRow b' (cur.toList.take (off*width sz)++f.take (m*width sz)++cur.toList.drop (off*width sz+m*width sz)).toArray):=by
        rw [execOp,ho];have hmin:Nat.min ys.length len=m:=hmm;simp [resolve,hc,ha',ht',invoke,builtin,hval',Builtin.copy_,run_underlying hT,hlenOf,run_sz hsz,goInt,hmin,hfirst,hst]
       refine ⟨_,_,hrun,.inl ⟨_,rfl,?_⟩⟩;refine hR.write H rel hd r b' _ _ _ (by rw [hobj]; simp) (by rw [hbase]; rfl) (by simp [HObj.width,hw]) (λok hok hcell=>?_) _ (λw' ok h'=>.p _ _ (.i _ _));have t:=(((hflat.mono hok hcell).take off).append ((f1.mono hok hcell).take m)).append ((hflat.mono hok hcell).drop (off+m));refine ⟨_,?_,t⟩;have hlt:=t.length;have hlen:(xs.take off++ys.take m++xs.drop (off+m)).length=xs.length:=by simp; omega
       rw [hlen] at hlt ⊢;rw [hbase];have:=ownsRow_write (k:=xs.length) hheap hB hcap hmax hcur hlt;have hcells:(flat.take (off*width sz)++f.take (m*width sz)++flat.drop ((off+m)*width sz))++cur.toList.drop (xs.length*width sz)=
        cur.toList.take (off*width sz)++f.take (m*width sz)++cur.toList.drop (off*width sz+m*width sz):=by
        rw [<- htake,List.take_take,List.drop_take,hadd];rw [Nat.min_eq_left (by omega)];simp only [List.append_assoc];rw [drop_take_drop _ (by omega)]
       rw [hcells] at this;exact this
theorem zeroCells_eq {z:Array Value} {wd:Nat} (hz:z.size=wd) (hpos:0<wd) (c:Nat):(Builtin.zeroCells z c).toList=(List.replicate c z.toList).flatten:=by
 rw [<- range_mod hz hpos c];simp [Builtin.zeroCells,hz]
theorem ok_appendZ (hd:∀ t,o.dst=some t->t<n) {T Tn e:TypeId} {c:Call} {x y:Operand} {sx sy:SX} {sz:Option Nat} {zv:V} {ti:TypeInfo} {T1 T2:TypeId} {r g len:Nat} {xs:List V} {kn kq:IntKind} {i:Int}
 (ho:o.op= .call c) (hc:c.callee= .builtin .append) (ha:c.args.toList=[x,y]) (ht:c.argTypes.toList=[T,Tn]) (hT:P.underlying T=some (.slice e)) (hTn:P.underlying Tn=some (.int kn))
 (hsz:szOf P e=some sz) (hzv:zeroV P e=some zv) (hti:P.info? e=some ti) (hpos:0<width sz) (hx:slimX P T1 x=some sx) (hy:slimX P T2 y=some sy)
 (hev:S.ev sx= .own r g 0 len) (hev':S.ev sy= .p (.i kq i)) (h0:0<=i) (hobj:(S.h r).o=some (.arr e sz xs)) (hg:g=(S.h r).g) (hle:len<=xs.length)
 (hb:(len+i.toNat)*ti.bytes<=2^47) (h47:len+i.toNat<=2^47) (pure:Bool):
 OpOK P A w0 n o S ((S.heap (some (r,⟨g+1,if pure then none else some (.arr e sz (xs.take len++List.replicate i.toNat zv))⟩))).put o.dst
  (if pure then .p (.sl sz (xs.take len++List.replicate i.toNat zv)) else .own r (g+1) 0 (len+i.toNat))):=by
 intro a w hR;obtain ⟨μ,H,rel⟩:=hR.ex;obtain ⟨sz',ti',z,z',hs',hi,hz,hzc,hsh,hrel⟩:=zeroV_spec hzv;rw [hsz,Option.some.injEq] at hs'; subst hs';rw [hti,Option.some.injEq] at hi; subst hi;obtain ⟨d,ti',_,hi',hsize,_⟩:=szOf_spec hsz;rw [hti,Option.some.injEq] at hi'; subst hi';have hzs:z.cells.size=width sz:=by rw [<- hzc]; exact hsh.size
 have h1:=ev_rel hx rel;rw [hev] at h1;have h2:=own_inv h1 hg;have hw:(S.h r).width=width sz:=by simp [HC.width,hobj,HObj.width]
 rw [hw] at h2;obtain ⟨flat,hown,hflat⟩:=H.obj r _ hobj;obtain ⟨hpre,hblk⟩:=own_prefix hown h2 hle;have e2:=int_inv (p_of hy hev' rel);have hB:w0.B w.heap.size:=.inl hR.below.size;obtain ⟨m,rfl⟩:=Int.eq_ofNat_of_zero_le h0;simp only [Int.toNat_natCast] at*
 have ha':c.args=#[x,y]:=by apply Array.ext'; simpa using ha
 have ht':c.argTypes=#[T,Tn]:=by apply Array.ext'; simpa using ht
 generalize hnews:(List.replicate m z'.cells.toList).flatten=news;have hzero:(Builtin.zeroCells z.cells m).toList=news:=by rw [zeroCells_eq hzs hpos,<-hzc,hnews]
 have hnl:news.length=m*width sz:=by rw [<- hzero]; simp [Builtin.zeroCells,hzs]
 have fz:RelFlat w (okOf A w μ S.h) sz (List.replicate m zv) news:=by rw [<- hnews]; exact RelFlat.replicate (hrel _ _) hsh m
 have hbm:m*ti.bytes<=2^47:=by rw [Nat.add_mul] at hb; omega
 have hbi:¬ (281474976710656<(m:Int)*(ti.bytes:Int)):=by rw [<- Int.natCast_mul]; omega
 have hwrap:IntKind.i64.wrap (m:Int)=m:=by rw [IntKind.wrap_i64]; omega
 have hnn:¬ ((m:Int)<0):=by omega
 have key:∃ v' w',(Builtin.append_ #[T,Tn] o.type #[a.eval x,.int kq m]).run P w= .ok v' w'/\AppRes w w0.B e (width sz) (len+m) (flat.take (len*width sz)++news) (a.eval x) v' w':=by
  by_cases hm:m=0
  . subst hm;have hn0:news=[]:=List.eq_nil_of_length_eq_zero (by simpa using hnl);subst hn0;refine ⟨a.eval x,w,?_,by simpa using AppRes.refl hpre⟩;rcases hpre.2 with ⟨hv,hn⟩ | ⟨g',cap',cur,hv,hBg,hheap,hcap,hmax,hcur,htake⟩
    . rw [hv];have hw0:IntKind.i64.wrap 0=0:=by rw [IntKind.wrap_i64]; omega
      simp [Builtin.append_,run_underlying hT,run_underlying hTn,sizeOf,typeInfo,hti,asInt,asIntOf,hw0,hn]
    . rw [hv];have hw0:IntKind.i64.wrap 0=0:=by rw [IntKind.wrap_i64]; omega
      simp [Builtin.append_,run_underlying hT,run_underlying hTn,sizeOf,typeInfo,hti,asInt,asIntOf,hw0,hcap,storeCells]
  . rcases hpre.2 with ⟨hv,hn⟩ | ⟨g',cap',cur,hv,hBg,hheap,hcap,hmax,hcur,htake⟩
    . have hr:=Go.Lib.run_append_grow_zeros (P:=P) w T Tn o.type e ti z kq kn hT hTn hti hz none 0 0 [] (by simp [Builtin.firstCells]) m (by omega) (by omega) (by omega) (by omega) (by omega) (by rw [Nat.zero_add,nextslicecap_zero (by omega)]; omega);subst hn;rw [hv];simp only [Nat.zero_add] at hr;refine ⟨_,_,hr,?_⟩;simp only [Nat.zero_mul,List.take_zero,List.nil_append,Nat.zero_add];have:=AppRes.new (v:=.slice none 0 0) (T:=e) (rest:=Builtin.zeroCells z.cells (grownCap w m 0 e-m)) hB hnl (grownCap_ge w m 0 e) (grownCap_le_maxLen w m 0 e (by simp only [maxLen]; omega)) (by rw [size_zeroCells,hzs]);rw [<- hzero] at this ⊢
      simpa using this
    . by_cases hroom:len+m<=cap'
      . have hle':(len+m)*width sz<=cap'*width sz:=Nat.mul_le_mul_right _ hroom;rw [Nat.add_mul] at hle';have hst:=run_storeCells_at P g' (len*width sz) e news 0 cur w hheap (by rw [hnl,hcur]; omega) (λu hu=>fz.ones u hu);simp only [Nat.add_zero] at hst;have hms:m*ti.size≠0:=by rw [hsize]; exact Nat.mul_ne_zero hm (by omega)
        have hms':¬ (m*width sz=0):=by rw [<- hsize]; exact hms
        rw [hv];refine ⟨_,_,?_,AppRes.room hheap hBg htake hpre.1 hnl hroom hmax hcur⟩;simp [Builtin.append_,run_underlying hT,run_underlying hTn,sizeOf,typeInfo,hti,asInt,asIntOf,hwrap,hnn,hbi,hroom,hsize,hms',zeroValue,hz,hzero,Addr.add_lit,hst]
      . have hfirst:(Builtin.firstCells ti.size len (.slice (some ⟨g',0,none⟩) len cap')).run P w.drew= .ok (flat.take (len*width sz)).toArray w.drew:=by
         refine run_firstCells_some _ _ _ _ _ _ _ (by rw [hsize]; exact hpre.1) λj u hj=>?_;have:owns w w0.B e (width sz) (.slice (some ⟨g',0,none⟩) len cap') len (flat.take (len*width sz)):=by rw [<- hv]; exact hpre
         exact this.row.cells (g:=g') rfl j u hj
        have hr:=Go.Lib.run_append_grow_zeros (P:=P) w T Tn o.type e ti z kq kn hT hTn hti hz (some ⟨g',0,none⟩) len cap' _ hfirst m (by omega) (by omega) (by omega) (by omega) (by omega) (growslice_fits (by omega) hb);rw [hv];refine ⟨_,_,hr,?_⟩;have hlen:(flat.take (len*width sz)++news).length=(len+m)*width sz:=by rw [List.length_append,hpre.1,hnl,Nat.add_mul]
        have:=AppRes.new (v:=.slice (some ⟨g',0,none⟩) len cap') (T:=e) (rest:=Builtin.zeroCells z.cells (grownCap w (len+m) cap' e-(len+m))) hB hlen (grownCap_ge w (len+m) cap' e) (grownCap_le_maxLen w (len+m) cap' e (by simp only [maxLen]; omega)) (by rw [size_zeroCells,hzs]);have harr:(flat.take (len*width sz)++news).toArray=(flat.take (len*width sz)).toArray++Builtin.zeroCells z.cells m:=by
         apply Array.ext'; simp [hzero]
        rw [harr] at this;exact this
 obtain ⟨v',w',hr,hres⟩:=key;have hrun:(execOp a.eval o).run P w= .ok (.value v') w':=by
  rw [execOp,ho];simp [resolve,hc,ha',ht',invoke,builtin,e2,hr]
 subst hg;refine ⟨_,_,hrun,.inl ⟨_,rfl,?_⟩⟩;have hlen:(xs.take len++List.replicate m zv).length=len+m:=by simp; omega
 have hf':RelFlat w (okOf A w μ S.h) sz (xs.take len++List.replicate m zv) (flat.take (len*width sz)++news):=(hflat.take len).append fz;rw [<- hlen] at hres ⊢;exact hR.app H rel hd hobj hblk hres hf' pure
end
end Go.Vw
namespace Go.Vw
open Go.RowKit (Below)
section
variable {P:Program} {A:Nat->Prop} {w0:Base} {n:Nat} {o:Oper} {S:St}
theorem freeze_heap_ne (w:World) (a:Addr) (k b:Nat) (h:b≠a.block):(w.freeze a k).heap[b]? =w.heap[b]? :=by
 unfold World.freeze;split
 . rfl
 . simp [Array.getElem?_modify,Ne.symm h]
theorem freeze_heap_eq (w:World) (a:Addr) (k:Nat) {c:Array Value} {T:TypeId} {fr:Nat × Nat} (h:w.heap[a.block]? =some (.cells c T fr)):
 ∃ fr',(w.freeze a k).heap[a.block]? =some (.cells c T fr'):=by
 unfold World.freeze;split
 . exact ⟨fr,h⟩
 . obtain ⟨lo,hi⟩:=fr;simp [Array.getElem?_modify,h]
theorem freeze_size (w:World) (a:Addr) (k:Nat):(w.freeze a k).heap.size=w.heap.size:=by
 unfold World.freeze;split
 . rfl
 . simp
theorem bytesV_flat {w:World} {ok:Nat->Prop} (s:ByteArray):RelFlat w ok none (bytesV s) (s.data.toList.map λb=>Value.int .u8 b.toNat):=by
 refine ⟨s.data.toList.map λb=>Value.int .u8 b.toNat,by simp [bytesV],λj hj=>?_,λv hv=>?_,?_⟩
 . have hj':j<s.data.toList.length:=by simpa [bytesV] using hj
   simp only [bytesV,List.getElem_map];rw [getD_lt _ _ (by simpa using hj')];simp only [List.getElem_map];exact .i _ _
 . obtain ⟨b,_,rfl⟩:=List.mem_map.1 hv; rfl
 . induction s.data.toList with
   | nil=>rfl
   | cons b r ih=>simp only [List.map_cons,List.flatMap_cons,<-ih]; rfl
theorem ok_s2b (hd:∀ t,o.dst=some t->t<n) {src dst e T1:TypeId} {x:Operand} {sx:SX} {s:ByteArray}
 (ho:o.op= .convert src dst x) (hs:P.underlying src=some .string) (hdst:P.underlying dst=some (.slice e)) (he:P.underlying e=some (.int .u8)) (hx:slimX P T1 x=some sx) (hev:S.ev sx= .p (.s s)) (hsz:s.size<=2^62):
 OpOK P A w0 n o S (S.put o.dst (.p (.sl none (bytesV s)))):=by
 intro a w hR;obtain ⟨μ,H,rel⟩:=hR.ex;have e1:=str_inv (p_of hx hev rel)
 let cap:=(Question.appendCap s.size 0 e).cut (w.tape w.drawn (.appendCap s.size 0 e))
 have hcap:s.size<=cap:=by simp only [cap,Question.cut]; omega
 let cells:Array Value:=(s.data.map λb=>Value.int .u8 b.toNat)++Array.replicate (cap-s.size) (.int .u8 0)
 have hrun:(execOp a.eval o).run P w= .ok (.value (.slice (some ⟨w.heap.size,0,none⟩) s.size cap)) ((w.drew.alloc (.cells cells e)).freeze ⟨w.heap.size,cells.size,none⟩ 1):=by
  rw [execOp,ho];have hsh:(w.drew.alloc (.cells cells e)).shape? w.heap.size=some (e,cells.size):=by
   simp only [World.shape?];have:=heap_alloc_new w.drew (Obj.cells cells e);simp only [World.size_drew] at this;rw [this]
  simp only [cells,cap] at hsh ⊢;simp [e1,convert,run_underlying hs,run_underlying hdst,run_underlying he,Conv.stringToBytes,Question.forced,newRow,markStringish,hsh]
 have hheap:(w.drew.alloc (.cells cells e)).heap[w.heap.size]? =some (.cells cells e (0,0)):=heap_alloc_new w.drew _;obtain ⟨fr',hfr⟩:=freeze_heap_eq (w.drew.alloc (.cells cells e)) ⟨w.heap.size,cells.size,none⟩ 1 hheap;have hbel:Below w.heap.size w ((w.drew.alloc (.cells cells e)).freeze ⟨w.heap.size,cells.size,none⟩ 1):=by
  refine ⟨by unfold World.freeze; split<;>rfl,by unfold World.freeze; split<;>rfl,by unfold World.freeze; split<;>rfl,by rw [freeze_size]; simp,λk hk=>?_⟩;rw [freeze_heap_ne _ _ _ _ (by simp; omega)];exact heap_alloc_old w.drew _ k hk
 refine ⟨_,_,hrun,.inl ⟨_,rfl,?_⟩⟩;obtain ⟨H',k⟩:=H.grow hbel;refine RelSt.put' rel hR.size hR.defers hR.new H' k (hR.below.grow hbel) hd (.p _ _ ?_);have hl:(bytesV s).length=s.size:=by simp [bytesV]
 have:=(bytesV_flat s).slice (g:=w.heap.size) (off:=0) (cap:=cap) (w:=(w.drew.alloc (.cells cells e)).freeze ⟨w.heap.size,cells.size,none⟩ 1) (rangeAt_of_row hfr 0 _ λi c hc=>by
  simp only [cells,Array.toList_append,Array.toList_map,Nat.zero_add];rw [List.getElem?_append_left (by simpa using (List.getElem?_eq_some_iff.1 hc).1)];exact hc) (ok:=okOf A ((w.drew.alloc (.cells cells e)).freeze ⟨w.heap.size,cells.size,none⟩ 1) μ S.h) ⟨hR.new _ (.inl hR.below.size),by rw [freeze_size]; simp,λr hr hb=>?_⟩ (by rw [hl]; exact hcap)
 . rw [hl] at this; exact this
 . cases ho:(S.h r).o with
   | none=>exact absurd ho hr
   | some ob'=>have:=((H.obj r ob' ho).lt hb).2; omega
theorem bytes_inv {w:World} {ok:Nat->Prop}:∀ {l:List UInt8} {f:List Value},RelFlat w ok none (l.map λb=>V.i .u8 b.toNat) f->f=l.map λb=>Value.int .u8 b.toNat:=by
 intro l f h;obtain ⟨vals,h1,h2,h3,rfl⟩:=h;rw [flat_none vals h3];apply List.ext_getElem
 . simpa using h1
 . intro i hi hi';have hil:i<l.length:=by simpa using hi'
   have:=h2 i (by simpa using hil);rw [getD_lt _ _ hi] at this;simp only [List.getElem_map] at this ⊢;exact int_inv this
theorem ok_b2s (hd:∀ t,o.dst=some t->t<n) {src dst e T1:TypeId} {x:Operand} {sx:SX} {cy:Prop} {xs:List V} {l:List UInt8}
 (ho:o.op= .convert src dst x) (hs:P.underlying src=some (.slice e)) (hdst:P.underlying dst=some .string) (he:P.underlying e=some (.int .u8)) (hx:slimX P T1 x=some sx)
 (hel:S.elems none (S.ev sx)=some (cy,xs)) (hcy:cy) (hxs:xs=l.map λb=>V.i .u8 b.toNat):
 OpOK P A w0 n o S (S.put o.dst (.p (.s ⟨(xs.map V.byte).toArray⟩))):=
 pure_ok hd λa w μ H rel=>by
  obtain ⟨f,f1,f2⟩:=elems_rel hx hel hcy H rel;have hl:xs.map V.byte=l:=by
   rw [hxs,List.map_map];have:(V.byte ∘ λb:UInt8=>V.i .u8 b.toNat)=id:=by funext b; simp [V.byte]
   rw [this,List.map_id]
  rw [hl];subst hxs;have hf:=bytes_inv f1;refine ⟨_,?_,.p _ _ (.s _)⟩;rw [execOp,ho];rcases f2 with ⟨h,hnil⟩ | ⟨ad,cap,h,hcell⟩
  . have hl0:l=[]:=by simpa using hnil
    subst hl0;simp only [h];have:=run_convert_bytes_nil (P:=P) (w:=w) src e hs he 0 0 dst hdst;simp only [this,Sem.run_bind,Result.andThen_ok,Sem.run_pure];rfl
  . have hld:=run_loadCells_list (P:=P) w ad f hcell;rw [hf] at hld;simp only [List.length_map] at hld h;have hrun:=run_bytesToString (P:=P) w ad l.length cap (l.map λb=>(b.toNat:Int)) (by rw [hld]; simp [Function.comp_def]);rw [foldl_push_bytes] at hrun;have hcv:=run_convert_bytes_string (P:=P) w src dst e (some ad) l.length cap hs he hdst;simp only [h];have hm:(l.map λb:UInt8=>(b.toNat:Int)).map (λn=>UInt8.ofNat n.toNat)=l:=by
     rw [List.map_map];have:((λn:Int=>UInt8.ofNat n.toNat) ∘ λb:UInt8=>(b.toNat:Int))=id:=by funext b; simp
     rw [this,List.map_id]
    rw [hm] at hrun;simp only [hcv,hrun,Sem.run_bind,Result.andThen_ok,Sem.run_pure];have he0:(ByteArray.empty.data++l.toArray)=l.toArray:=by
     have:ByteArray.empty.data=#[]:=rfl;rw [this]; simp
    rw [he0]
end
end Go.Vw
