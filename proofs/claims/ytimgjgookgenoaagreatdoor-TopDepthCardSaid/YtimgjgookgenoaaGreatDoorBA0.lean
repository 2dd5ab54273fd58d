/- A base: states, operations, code, calls; what the kernel reckons holds. It names no program. Part 1. -/
import Derived.Calls
import Derived.Orders
import Derived.Below
import Derived.Laws.AppendOwn
import Derived.Laws.MakeOwn
import Derived.Laws.IdiomCopy
import Derived.Deep.MidRow
import Derived.Laws.AppendOwnNone
import Derived.Laws.Strings
import Derived.Lib.AppendZeros
import Derived.Lib.AppendZerosOnto
import Derived.Laws.BytesString
import Derived.Laws.BytesArg
import Derived.Still
import Derived.Scope
import Derived.Laws.Externs
import Derived.IntWalk
set_option linter.unusedVariables false
set_option linter.unusedSimpArgs false
set_option linter.unusedSectionVars false
namespace Go.Vw
open Go.RowKit (Below)

/-- The values without an address: nil pointer, interface, function, map. -/
inductive Nul where
 | ptr
 | iface
 | func
 | map
 deriving DecidableEq

def Nul.val:Nul->Value
 | .ptr=>.pointer none
 | .iface=>.nilIface
 | .func=>.nilFunc
 | .map=>.map none

/-- What a Go value reads as: no address is left in it. -/
inductive V where
 | b (x:Bool)
 | i (k:IntKind) (n:Int)
 | s (x:ByteArray)
 | sl (sz:Option Nat) (xs:List V)
 | ref (sz:Option Nat) (v:V)
 | clo (f:FuncId) (cap:List V)
 | agg (cs:List V)
 | nul (k:Nul)
 | ifc (T:TypeId) (v:V)

instance:Inhabited V:=⟨.b false⟩

/-- The form of a variable: one cell (none), or a struct of n cells. -/
def Shape:Option Nat->Value->Prop
 | none,v=>v.oneCell'=true
 | some n,v=>∃ cs:Array Value,v= .agg cs/\cs.size=n/\∀ c∈cs,c.oneCell'=true

def width (sz:Option Nat):Nat:=sz.getD 1

theorem Shape.size {sz:Option Nat} {v:Value} (h:Shape sz v):v.cells.size=width sz:=by
 cases sz with
 | none=>cases v<;>simp_all [Shape,Value.oneCell',Value.cells,width]
 | some n=>obtain ⟨cs,rfl,h2,_⟩:=h; simpa [Value.cells,width] using h2

theorem Shape.one {sz:Option Nat} {v:Value} (h:Shape sz v):∀ c∈v.cells,c.oneCell'=true:=by
 cases sz with
 | none=>cases v<;>simp_all [Shape,Value.oneCell',Value.cells]
 | some n=>obtain ⟨cs,rfl,_,h3⟩:=h; simpa [Value.cells] using h3

theorem Shape.list {sz:Option Nat} {v:Value} (h:Shape sz v):v.cells.toList.length=width sz:=by simpa using h.size

/-- 'val' reads as the V in the world w, through blocks that 'ok' lets alone. -/
inductive RelV (w:World) (ok:Nat->Prop):V->Value->Prop
 | b (x:Bool):RelV w ok (.b x) (.bool x)
 | i (k:IntKind) (n:Int):RelV w ok (.i k n) (.int k n)
 | s (x:ByteArray):RelV w ok (.s x) (.string x)
 | nil (sz:Option Nat):RelV w ok (.sl sz []) (.slice none 0 0)
 | void (sz:Option Nat) (a:Addr):RelV w ok (.sl sz []) (.slice (some a) 0 0)
 | sl (sz:Option Nat) (xs:List V) (blk off len cap:Nat) (val:Nat->Value) (hlen:len=xs.length) (hok:ok blk) (hcap:len<=cap)
  (hrel:∀ j (h:j<xs.length),RelV w ok (xs[j]) (val j))
  (hsh:∀ j,j<xs.length->Shape sz (val j))
  (hcell:∀ j,j<xs.length->w.rangeAt blk (off+j*width sz) (val j).cells.toList):
  RelV w ok (.sl sz xs) (.slice (some ⟨blk,off,none⟩) len cap)
 | ref (sz:Option Nat) (v:V) (blk off:Nat) (val:Value) (hok:ok blk) (hrel:RelV w ok v val) (hsh:Shape sz val)
  (hcell:w.rangeAt blk off val.cells.toList):RelV w ok (.ref sz v) (.pointer (some ⟨blk,off,none⟩))
 | clo (f:FuncId) (caps:List V) (vals:Array Value) (hlen:vals.size=caps.length)
  (hrel:∀ j (h:j<caps.length),RelV w ok (caps[j]) (vals.getD j undef)):RelV w ok (.clo f caps) (.func (.func f) #[] vals)
 | agg (cs:List V) (vals:Array Value) (hlen:vals.size=cs.length) (hone:∀ c∈vals,c.oneCell'=true)
  (hrel:∀ j (h:j<cs.length),RelV w ok (cs[j]) (vals.getD j undef)):RelV w ok (.agg cs) (.agg vals)
 | nul (k:Nul):RelV w ok (.nul k) k.val
 | ifc (T:TypeId) (v:V) (val:Value) (hrel:RelV w ok v val):RelV w ok (.ifc T v) (.iface T val)

theorem rangeAt_mono {w w':World} {b o:Nat} {cs:List Value} (hc:∀ o,w'.cell? ⟨b,o,none⟩=w.cell? ⟨b,o,none⟩) (h:w.rangeAt b o cs):w'.rangeAt b o cs:=
 λj v hj=>by rw [hc]; exact h j v hj

theorem RelV.mono {w w':World} {ok ok':Nat->Prop} (hok:∀ b,ok b->ok' b) (hc:∀ b o,ok b->w'.cell? ⟨b,o,none⟩=w.cell? ⟨b,o,none⟩)
 {v:V} {val:Value} (h:RelV w ok v val):RelV w' ok' v val:=by
 induction h with
 | b x=>exact .b x
 | i k n=>exact .i k n
 | s x=>exact .s x
 | nil sz=>exact .nil sz
 | void sz a=>exact .void sz a
 | sl sz xs blk off len cap val hlen hb hcap hrel hsh hcell ih=>
  exact .sl sz xs blk off len cap val hlen (hok _ hb) hcap ih hsh λj hj=>rangeAt_mono (λo=>hc _ o hb) (hcell j hj)
 | ref sz v blk off val hb hrel hsh hcell ih=>exact .ref sz v blk off val (hok _ hb) ih hsh (rangeAt_mono (λo=>hc _ o hb) hcell)
 | clo f caps vals hlen hrel ih=>exact .clo f caps vals hlen ih
 | agg cs vals hlen hone hrel ih=>exact .agg cs vals hlen hone ih
 | nul k=>exact .nul k
 | ifc T v val hrel ih=>exact .ifc T v val ih

/-- What lies in a slot of a frame. -/
inductive SV where
 | p (v:V)
 | any
 | own (r g off len:Nat)
 | ptr (r g j:Nat)
 | arrp (r g k:Nat)
 | tup (vs:List SV)
 | bool
 | bnd (f:FuncId) (r g:Nat)
 | raw (v:Value)
 | agg (cs:List SV)
 | nil

instance:Inhabited SV:=⟨.any⟩

inductive HObj where
 | box (T:TypeId) (cs:List V)
 | arr (T:TypeId) (sz:Option Nat) (xs:List V)
 | rows (T:TypeId) (xs:List SV)
 | sbox (T:TypeId) (cs:List SV)

structure HC where
 g:Nat
 o:Option HObj

def HObj.width:HObj->Nat
 | .box _ _=>1
 | .arr _ sz _=>Vw.width sz
 | .rows _ _=>1
 | .sbox _ _=>1

/-- The references in a slot's value. -/
def svref1:SV->List Nat
 | .own r _ _ _=>[r]
 | .ptr r _ _=>[r]
 | .arrp r _ _=>[r]
 | .bnd _ r _=>[r]
 | _=>[]

def svref:SV->List Nat
 | .own r _ _ _=>[r]
 | .ptr r _ _=>[r]
 | .arrp r _ _=>[r]
 | .bnd _ r _=>[r]
 | .agg cs=>cs.flatMap svref1
 | _=>[]

/-- The references in an object's cells. -/
def HObj.refs:HObj->List Nat
 | .rows _ xs=>xs.flatMap svref
 | .sbox _ cs=>cs.flatMap svref
 | _=>[]

structure St where
 σ:Nat->SV
 h:Nat->HC

def blk:Value->Option Nat
 | .slice (some a) _ _=>some a.block
 | .pointer (some a)=>some a.block
 | _=>none

/-- A slice value over the row of 'base', from element 'off' on. -/
def SubOf (base:Value) (wd off len:Nat) (val:Value):Prop:=
 match base with
 | .slice none _ _=>val= .slice none 0 0/\off=0/\len=0
 | .slice (some a) n cap=>∃ bo c,val= .slice (some ⟨a.block,bo,none⟩) len c/\len<=c/\((c=0/\off=cap/\cap≠0)\/(bo=off*wd/\off+c=cap))
 | _=>False

def PtrOf (base:Value) (wd j:Nat) (val:Value):Prop:=∃ g,blk base=some g/\val= .pointer (some ⟨g,j*wd,none⟩)

/-- The address of an array's variable of k cells. -/
def ArrOf (base:Value) (k:Nat) (val:Value):Prop:=∃ g n,base= .slice (some ⟨g,0,none⟩) n k/\val= .pointer (some ⟨g,0,none⟩)

def HC.width (c:HC):Nat:=match c.o with | some o=>o.width | none=>1

/-- Where a call begins: its first world, the blocks that it was given as its own, and what stood at references that it was given: generation, width, value. -/
structure Base where
 w:World
 own:Nat->Prop
 at0:Nat->Option (Nat × Nat × Value)

/-- The blocks that a call may turn. -/
def Base.B (b0:Base) (b:Nat):Prop:=b0.w.heap.size<=b\/b0.own b

/-- Nothing but the call's own blocks has turned. -/
structure BelowX (b0:Base) (w:World):Prop where
 os:w.os=b0.w.os
 tape:w.tape=b0.w.tape
 output:w.output=b0.w.output
 size:b0.w.heap.size<=w.heap.size
 block:∀ k,¬ b0.B k->w.heap[k]? =b0.w.heap[k]?

theorem BelowX.grow {b0:Base} {w w':World} (h:BelowX b0 w) (k:Below w.heap.size w w'):BelowX b0 w':=
 ⟨k.os.trans h.os,k.tape.trans h.tape,k.output.trans h.output,Nat.le_trans h.size k.size,λi hi=>(k.block i (by
  have:¬ b0.w.heap.size<=i:=λe=>hi (.inl e);have:=h.size;omega)).trans (h.block i hi)⟩

/-- The slice value 'v', of 'n' elements of 'size' cells each, owns the cells 'xs', in a block of B. -/
def owns (w:World) (B:Nat->Prop) (e:TypeId) (size:Nat) (v:Value) (n:Nat) (xs:List Value):Prop:=
 xs.length=n*size/\
 ((v= .slice none 0 0/\n=0)\/
  ∃ g cap cur,v= .slice (some ⟨g,0,none⟩) n cap/\B g/\w.heap[g]? =some (.cells cur e (0,0))/\n<=cap/\cap<=maxLen/\cur.size=cap*size/\cur.toList.take (n*size)=xs)

theorem owns.row {w:World} {B:Nat->Prop} {e:TypeId} {size:Nat} {v:Value} {n:Nat} {xs:List Value} (h:owns w B e size v n xs):w.ownsRow 0 e size v n xs:=by
 refine ⟨h.1,?_⟩;rcases h.2 with h2 | ⟨g,cap,cur,e1,e2,e3⟩
 . exact .inl h2
 . exact .inr ⟨g,cap,cur,e1,Nat.zero_le _,e3⟩

inductive RelS (w:World) (ok:Nat->Prop) (μ:Nat->Value) (h:Nat->HC):SV->Value->Prop
 | p (v:V) (val:Value) (hv:RelV w ok v val):RelS w ok μ h (.p v) val
 | any (val:Value):RelS w ok μ h .any val
 | own_stale (r g off len:Nat) (val:Value) (hg:g<(h r).g) (hone:val.oneCell'=true):RelS w ok μ h (.own r g off len) val
 | own (r g off len:Nat) (val:Value) (hg:g=(h r).g) (hs:SubOf (μ r) (h r).width off len val):RelS w ok μ h (.own r g off len) val
 | ptr_stale (r g j:Nat) (val:Value) (hg:g<(h r).g):RelS w ok μ h (.ptr r g j) val
 | ptr (r g j:Nat) (val:Value) (hg:g=(h r).g) (hs:PtrOf (μ r) (h r).width j val):RelS w ok μ h (.ptr r g j) val
 | arrp_stale (r g k:Nat) (val:Value) (hg:g<(h r).g):RelS w ok μ h (.arrp r g k) val
 | arrp (r g k:Nat) (val:Value) (hg:g=(h r).g) (hs:ArrOf (μ r) k val):RelS w ok μ h (.arrp r g k) val
 | tup (vs:List SV) (vals:Array Value) (hlen:vals.size=vs.length) (hrel:∀ j (hj:j<vs.length),RelS w ok μ h (vs[j]) (vals.getD j undef)):
  RelS w ok μ h (.tup vs) (.tuple vals)
 | bool (x:Bool):RelS w ok μ h .bool (.bool x)
 | raw (val:Value):RelS w ok μ h (.raw val) val
 | bnd_stale (f:FuncId) (r g:Nat) (val:Value) (hg:g<(h r).g):RelS w ok μ h (.bnd f r g) val
 | bnd (f:FuncId) (r g:Nat) (pv:Value) (hg:g=(h r).g) (hs:PtrOf (μ r) (h r).width 0 pv):RelS w ok μ h (.bnd f r g) (.func (.func f) #[pv] #[])
 | agg (cs:List SV) (vals:Array Value) (hlen:vals.size=cs.length) (hone:∀ c∈vals,c.oneCell'=true)
  (hrel:∀ j (hj:j<cs.length),RelS w ok μ h (cs[j]) (vals.getD j undef)):RelS w ok μ h (.agg cs) (.agg vals)
 | nil:RelS w ok μ h .nil (.slice none 0 0)

/-- Cells that read as slots' values. -/
def RelCells (w:World) (ok:Nat->Prop) (μ:Nat->Value) (h:Nat->HC) (xs:List SV) (flat:List Value):Prop:=
 flat.length=xs.length/\∀ j (hj:j<xs.length),RelS w ok μ h (xs[j]) (flat.getD j undef)/\(flat.getD j undef).oneCell'=true

/-- The cells of a row read as the elements. -/
def RelFlat (w:World) (ok:Nat->Prop) (sz:Option Nat) (xs:List V) (flat:List Value):Prop:=
 ∃ vals:List Value,vals.length=xs.length/\(∀ j (h:j<xs.length),RelV w ok (xs[j]) (vals.getD j undef))/\(∀ v∈vals,Shape sz v)/\flat=vals.flatMap (·.cells.toList)

def RelObj (w:World) (ok:Nat->Prop) (B:Nat->Prop) (base:Value):HObj->Prop
 | .box T cs=>∃ g cells,base= .pointer (some ⟨g,0,none⟩)/\B g/\w.heap[g]? =some (.cells cells T (0,0))/\RelFlat w ok none cs cells.toList
 | .arr T sz xs=>∃ flat,owns w B T (width sz) base xs.length flat/\RelFlat w ok sz xs flat
 | _=>False

/-- As RelObj, of rows and boxes too whose cells hold owned rows. -/
def RelObjX (w:World) (ok:Nat->Prop) (B:Nat->Prop) (μ:Nat->Value) (h:Nat->HC) (base:Value):HObj->Prop
 | .rows T xs=>∃ flat,owns w B T 1 base xs.length flat/\RelCells w ok μ h xs flat
 | .sbox T cs=>∃ g cells,base= .pointer (some ⟨g,0,none⟩)/\B g/\w.heap[g]? =some (.cells cells T (0,0))/\RelCells w ok μ h cs cells.toList
 | .box T cs=>RelObj w ok B base (.box T cs)
 | .arr T sz xs=>RelObj w ok B base (.arr T sz xs)

def okOf (A:Nat->Prop) (w:World) (μ:Nat->Value) (h:Nat->HC) (b:Nat):Prop:=A b/\b<w.heap.size/\∀ r,(h r).o≠none->blk (μ r)≠some b

structure HeapOK (A:Nat->Prop) (w:World) (B:Base) (μ:Nat->Value) (h:Nat->HC):Prop where
 obj:∀ r o,(h r).o=some o->RelObjX w (okOf A w μ h) B.B μ h (μ r) o
 inj:∀ r r' b,(h r).o≠none->(h r').o≠none->blk (μ r)=some b->blk (μ r')=some b->r=r'
 giv:∀ r g wd v,B.at0 r=some (g,wd,v)->g<(h r).g\/((h r).g=g/\(h r).width=wd/\μ r=v)
 clo:∀ r o,(h r).o=some o->1000<=r->∀ q∈o.refs,1000<=q

/-- The frame and the world are as the state says; below the first heap's size nothing has turned. -/
structure RelSt (A:Nat->Prop) (w0:Base) (n:Nat) (S:St) (a:Act) (w:World):Prop where
 ex:∃ μ,HeapOK A w w0 μ S.h/\(∀ t,RelS w (okOf A w μ S.h) μ S.h (S.σ t) (a.tmps.getD t undef))
 below:BelowX w0 w
 size:a.tmps.size=n
 defers:a.defers=[]
 new:∀ b,w0.B b->A b

def upd {α:Type} (f:Nat->α) (k:Nat) (v:α):Nat->α:=λx=>if x=k then v else f x
@[simp] theorem upd_same {α:Type} (f:Nat->α) (k:Nat) (v:α):upd f k v k=v:=by simp [upd]
theorem upd_ne {α:Type} (f:Nat->α) {k x:Nat} (v:α) (h:x≠k):upd f k v x=f x:=by simp [upd,h]
theorem upd_apply {α:Type} (f:Nat->α) (k x:Nat) (v:α):upd f k v x=if x=k then v else f x:=rfl
end Go.Vw

namespace Go.Vw
open Go.RowKit (Below)

theorem cell?_of_heap {w w':World} {b:Nat} (h:w'.heap[b]? =w.heap[b]?) (o:Nat):w'.cell? ⟨b,o,none⟩=w.cell? ⟨b,o,none⟩:=by
 simp [World.cell?,h]

theorem RelFlat.mono {w w':World} {ok ok':Nat->Prop} (hok:∀ b,ok b->ok' b) (hc:∀ b o,ok b->w'.cell? ⟨b,o,none⟩=w.cell? ⟨b,o,none⟩)
 {sz:Option Nat} {xs:List V} {flat:List Value} (h:RelFlat w ok sz xs flat):RelFlat w' ok' sz xs flat:=by
 obtain ⟨vals,h1,h2,h3,h4⟩:=h;exact ⟨vals,h1,λj hj=>(h2 j hj).mono hok hc,h3,h4⟩

theorem ownsRow_heap {w w':World} {B:Nat->Prop} {T:TypeId} {size n:Nat} {v:Value} {xs:List Value}
 (hb:∀ b,blk v=some b->w'.heap[b]? =w.heap[b]?) (h:owns w B T size v n xs):owns w' B T size v n xs:=by
 refine ⟨h.1,?_⟩;rcases h.2 with h2 | ⟨g,cap,cur,rfl,hg,hh,r⟩
 . exact .inl h2
 . exact .inr ⟨g,cap,cur,rfl,hg,by rw [hb g rfl]; exact hh,r⟩

theorem RelObj.keep {w w':World} {ok ok':Nat->Prop} {B:Nat->Prop} {base:Value} {o:HObj} (h:RelObj w ok B base o) (hok:∀ b,ok b->ok' b)
 (hc:∀ b o,ok b->w'.cell? ⟨b,o,none⟩=w.cell? ⟨b,o,none⟩) (hb:∀ b,blk base=some b->w'.heap[b]? =w.heap[b]?):RelObj w' ok' B base o:=by
 cases o with
 | box T cs=>
  obtain ⟨g,cells,rfl,h1,h2,h3⟩:=h;exact ⟨g,cells,rfl,h1,by rw [hb g rfl]; exact h2,h3.mono hok hc⟩
 | arr T sz xs=>
  obtain ⟨flat,h1,h2⟩:=h;exact ⟨flat,ownsRow_heap hb h1,h2.mono hok hc⟩
 | _=>exact h.elim

theorem RelObj.x {w:World} {ok:Nat->Prop} {B:Nat->Prop} {base:Value} {o:HObj} (h:RelObj w ok B base o) (μ:Nat->Value) (hp:Nat->HC):RelObjX w ok B μ hp base o:=by
 cases o with
 | box T cs=>exact h
 | arr T sz xs=>exact h
 | _=>exact h.elim

theorem RelObj.refs {w:World} {ok:Nat->Prop} {B:Nat->Prop} {base:Value} {o:HObj} (h:RelObj w ok B base o):o.refs=[]:=by
 cases o with
 | box T cs=>rfl
 | arr T sz xs=>rfl
 | _=>exact h.elim

theorem RelObj.lt {w:World} {ok:Nat->Prop} {B:Nat->Prop} {base:Value} {o:HObj} (h:RelObj w ok B base o) {b:Nat} (hb:blk base=some b):B b/\b<w.heap.size:=by
 cases o with
 | box T cs=>
  obtain ⟨g,cells,rfl,h1,h2,h3⟩:=h;simp only [blk,Option.some.injEq] at hb; subst hb;exact ⟨h1,(Array.getElem?_eq_some_iff.1 h2).1⟩
 | arr T sz xs=>
  obtain ⟨flat,h1,h2⟩:=h;rcases h1.2 with ⟨rfl,_⟩ | ⟨g,cap,cur,rfl,hg,hh,r⟩
  . simp [blk] at hb
  . simp only [blk,Option.some.injEq] at hb; subst hb;exact ⟨hg,(Array.getElem?_eq_some_iff.1 hh).1⟩
 | _=>exact h.elim

theorem RelObjX.lt {w:World} {ok:Nat->Prop} {B:Nat->Prop} {μ:Nat->Value} {hp:Nat->HC} {base:Value} {o:HObj} (h:RelObjX w ok B μ hp base o) {b:Nat} (hb:blk base=some b):B b/\b<w.heap.size:=by
 cases o with
 | box T cs=>exact RelObj.lt (o:=.box T cs) h hb
 | arr T sz xs=>exact RelObj.lt (o:=.arr T sz xs) h hb
 | sbox T cs=>
  obtain ⟨g,cells,rfl,h1,h2,h3⟩:=h;simp only [blk,Option.some.injEq] at hb; subst hb;exact ⟨h1,(Array.getElem?_eq_some_iff.1 h2).1⟩
 | rows T xs=>
  obtain ⟨flat,h1,h2⟩:=h;rcases h1.2 with ⟨rfl,_⟩ | ⟨g,cap,cur,rfl,hg,hh,r⟩
  . simp [blk] at hb
  . simp only [blk,Option.some.injEq] at hb; subst hb;exact ⟨hg,(Array.getElem?_eq_some_iff.1 hh).1⟩

theorem SubOf.one {base:Value} {wd off len:Nat} {val:Value} (h:SubOf base wd off len val):val.oneCell'=true:=by
 unfold SubOf at h;split at h
 . rw [h.1]; rfl
 . obtain ⟨bo,c,rfl,_⟩:=h; rfl
 . exact h.elim

/-- What a change of world and heap must keep for the slots. -/
structure Keeps (A:Nat->Prop) (w:World) (μ:Nat->Value) (h:Nat->HC) (w':World) (μ':Nat->Value) (h':Nat->HC):Prop where
 ok:∀ b,okOf A w μ h b->okOf A w' μ' h' b
 cell:∀ b o,okOf A w μ h b->w'.cell? ⟨b,o,none⟩=w.cell? ⟨b,o,none⟩
 ref:∀ r,(h r).g<(h' r).g\/((h' r).g=(h r).g/\(h' r).width=(h r).width/\μ' r=μ r)

theorem Keeps.refl (A:Nat->Prop) (w:World) (μ:Nat->Value) (h:Nat->HC):Keeps A w μ h w μ h:=⟨λ_ h=>h,λ_ _ _=>rfl,λ_=>.inr ⟨rfl,rfl,rfl⟩⟩

theorem RelS.keep {A:Nat->Prop} {w w':World} {μ μ':Nat->Value} {h h':Nat->HC} (k:Keeps A w μ h w' μ' h') {sv:SV} {val:Value}
 (hs:RelS w (okOf A w μ h) μ h sv val):RelS w' (okOf A w' μ' h') μ' h' sv val:=by
 induction hs with
 | p v val hv=>exact .p v val (hv.mono k.ok k.cell)
 | any val=>exact .any val
 | bool x=>exact .bool x
 | raw v=>exact .raw v
 | own_stale r g off len val hg hone=>exact .own_stale r g off len val (by rcases k.ref r with h | h<;>omega) hone
 | own r g off len val hg hs=>
  rcases k.ref r with h1 | ⟨h1,h2,h3⟩
  . exact .own_stale r g off len val (by omega) hs.one
  . exact .own r g off len val (by omega) (by rw [h2,h3]; exact hs)
 | ptr_stale r g j val hg=>exact .ptr_stale r g j val (by rcases k.ref r with h | h<;>omega)
 | ptr r g j val hg hs=>
  rcases k.ref r with h1 | ⟨h1,h2,h3⟩
  . exact .ptr_stale r g j val (by omega)
  . exact .ptr r g j val (by omega) (by rw [h2,h3]; exact hs)
 | arrp_stale r g k' val hg=>exact .arrp_stale r g k' val (by rcases k.ref r with h | h<;>omega)
 | arrp r g k' val hg hs=>
  rcases k.ref r with h | ⟨h1,h2,h3⟩
  . exact .arrp_stale r g k' val (by omega)
  . exact .arrp r g k' val (by omega) (by rw [h3]; exact hs)
 | tup vs vals hlen hrel ih=>exact .tup vs vals hlen ih
 | bnd_stale f r g val hg=>exact .bnd_stale f r g val (by rcases k.ref r with h | h<;>omega)
 | bnd f r g pv hg hs=>
  rcases k.ref r with h1 | ⟨h1,h2,h3⟩
  . exact .bnd_stale f r g _ (by omega)
  . exact .bnd f r g pv (by omega) (by rw [h2,h3]; exact hs)
 | agg cs vals hlen hone hrel ih=>exact .agg cs vals hlen hone ih
 | nil=>exact .nil

theorem RelCells.keep {A:Nat->Prop} {w w':World} {μ μ':Nat->Value} {h h':Nat->HC} (k:Keeps A w μ h w' μ' h') {xs:List SV} {flat:List Value}
 (hs:RelCells w (okOf A w μ h) μ h xs flat):RelCells w' (okOf A w' μ' h') μ' h' xs flat:=⟨hs.1,λj hj=>⟨(hs.2 j hj).1.keep k,(hs.2 j hj).2⟩⟩

theorem RelObjX.keep {A:Nat->Prop} {w w':World} {μ μ':Nat->Value} {h h':Nat->HC} (k:Keeps A w μ h w' μ' h') {B:Nat->Prop} {base:Value} {o:HObj} (hx:RelObjX w (okOf A w μ h) B μ h base o)
 (hb:∀ b,blk base=some b->w'.heap[b]? =w.heap[b]?):RelObjX w' (okOf A w' μ' h') B μ' h' base o:=by
 cases o with
 | box T cs=>exact RelObj.keep (o:=.box T cs) hx k.ok k.cell hb
 | arr T sz xs=>exact RelObj.keep (o:=.arr T sz xs) hx k.ok k.cell hb
 | sbox T cs=>
  obtain ⟨g,cells,rfl,h1,h2,h3⟩:=hx;exact ⟨g,cells,rfl,h1,by rw [hb g rfl]; exact h2,h3.keep k⟩
 | rows T xs=>
  obtain ⟨flat,h1,h2⟩:=hx;exact ⟨flat,ownsRow_heap hb h1,h2.keep k⟩

/-- The heap changes at one reference: what is to be shown of it. -/
theorem HeapOK.changeX {A:Nat->Prop} {w w':World} {B:Base} {μ:Nat->Value} {h:Nat->HC} (H:HeapOK A w B μ h) (r:Nat) (c:HC) (base:Value)
 (hsize:w.heap.size<=w'.heap.size)
 (hoth:∀ b,b<w.heap.size->((h r).o≠none->blk (μ r)≠some b)->w'.heap[b]? =w.heap[b]?)
 (hnew:∀ b,c.o≠none->blk base=some b->((h r).o≠none/\blk (μ r)=some b)\/w.heap.size<=b)
 (hobj:∀ o,c.o=some o->Keeps A w μ h w' (upd μ r base) (upd h r c)->RelObjX w' (okOf A w' (upd μ r base) (upd h r c)) B.B (upd μ r base) (upd h r c) base o)
 (hg:(h r).g<c.g\/(c.g=(h r).g/\c.width=(h r).width/\base=μ r))
 (hclo:∀ o,c.o=some o->Keeps A w μ h w' (upd μ r base) (upd h r c)->1000<=r->∀ q∈o.refs,1000<=q):
 HeapOK A w' B (upd μ r base) (upd h r c)/\Keeps A w μ h w' (upd μ r base) (upd h r c):=by
 have hok:∀ b,okOf A w μ h b->okOf A w' (upd μ r base) (upd h r c) b:=by
  intro b hb;refine ⟨hb.1,Nat.lt_of_lt_of_le hb.2.1 hsize,λr' hr'=>?_⟩;by_cases e:r'=r
  . subst e;simp only [upd_same] at hr' ⊢;intro hbl;rcases hnew b hr' hbl with ⟨h1,h2⟩ | h1
    . exact hb.2.2 r' h1 h2
    . have:=hb.2.1; omega
  . rw [upd_ne _ _ e] at hr' ⊢;exact hb.2.2 r' hr'
 have hcell:∀ b o,okOf A w μ h b->w'.cell? ⟨b,o,none⟩=w.cell? ⟨b,o,none⟩:=λb o hb=>
  cell?_of_heap (hoth b hb.2.1 (λhl=>hb.2.2 r hl)) o
 have K:Keeps A w μ h w' (upd μ r base) (upd h r c):=by
  refine ⟨hok,hcell,λr'=>?_⟩;by_cases e:r'=r
  . subst e; rw [upd_same,upd_same]; exact hg
  . rw [upd_ne _ _ e,upd_ne _ _ e]; exact .inr ⟨rfl,rfl,rfl⟩
 refine ⟨⟨?_,?_,?_,?_⟩,K⟩
 . intro r' o ho;by_cases e:r'=r
   . subst e;rw [upd_same] at ho;have:=hobj o ho K;rw [upd_same]; exact this
   . rw [upd_ne _ _ e] at ho;have:=(H.obj r' o ho).keep K λb hb=>hoth b ((H.obj r' o ho).lt hb).2 (λhl hb'=>e (H.inj r' r b (by rw [ho]; simp) hl hb hb'));rw [upd_ne _ _ e]; exact this
 . have hlt:∀ r' b,(h r').o≠none->blk (μ r')=some b->b<w.heap.size:=by
    intro r' b hl hb;cases ho:(h r').o with
    | none=>exact absurd ho hl
    | some o=>exact ((H.obj r' o ho).lt hb).2
   intro r1 r2 b h1 h2 b1 b2;by_cases e1:r1=r<;>by_cases e2:r2=r
   . rw [e1,e2]
   . subst e1;rw [upd_same] at h1 b1;rw [upd_ne _ _ e2] at h2 b2;rcases hnew b h1 b1 with ⟨hl,hb⟩ | hb
     . exact (H.inj r2 r1 b h2 hl b2 hb).symm
     . have:=hlt r2 b h2 b2; omega
   . subst e2;rw [upd_same] at h2 b2;rw [upd_ne _ _ e1] at h1 b1;rcases hnew b h2 b2 with ⟨hl,hb⟩ | hb
     . exact H.inj r1 r2 b h1 hl b1 hb
     . have:=hlt r1 b h1 b1; omega
   . rw [upd_ne _ _ e1] at h1 b1;rw [upd_ne _ _ e2] at h2 b2;exact H.inj r1 r2 b h1 h2 b1 b2
 . intro r' g wd v hv;by_cases e:r'=r
   . subst e;rw [upd_same,upd_same];rcases H.giv r' g wd v hv with h1 | ⟨h1,h2,h3⟩<;>rcases hg with hg | ⟨hg,hw,rfl⟩
     . exact .inl (by omega)
     . exact .inl (by omega)
     . exact .inl (by omega)
     . exact .inr ⟨by omega,by rw [hw]; exact h2,h3⟩
   . rw [upd_ne _ _ e,upd_ne _ _ e];exact H.giv r' g wd v hv
 . intro r' o ho;by_cases e:r'=r
   . subst e;rw [upd_same] at ho;exact hclo o ho K
   . rw [upd_ne _ _ e] at ho;exact H.clo r' o ho

theorem HeapOK.change {A:Nat->Prop} {w w':World} {B:Base} {μ:Nat->Value} {h:Nat->HC} (H:HeapOK A w B μ h) (r:Nat) (c:HC) (base:Value)
 (hsize:w.heap.size<=w'.heap.size)
 (hoth:∀ b,b<w.heap.size->((h r).o≠none->blk (μ r)≠some b)->w'.heap[b]? =w.heap[b]?)
 (hnew:∀ b,c.o≠none->blk base=some b->((h r).o≠none/\blk (μ r)=some b)\/w.heap.size<=b)
 (hobj:∀ o,c.o=some o->(∀ b,okOf A w μ h b->okOf A w' (upd μ r base) (upd h r c) b)->(∀ b o,okOf A w μ h b->w'.cell? ⟨b,o,none⟩=w.cell? ⟨b,o,none⟩)->
  RelObj w' (okOf A w' (upd μ r base) (upd h r c)) B.B base o)
 (hg:(h r).g<c.g\/(c.g=(h r).g/\c.width=(h r).width/\base=μ r)):
 HeapOK A w' B (upd μ r base) (upd h r c)/\Keeps A w μ h w' (upd μ r base) (upd h r c):=
 H.changeX r c base hsize hoth hnew (λo ho K=>(hobj o ho K.ok K.cell).x _ _) hg (λo ho K _ q hq=>by rw [(hobj o ho K.ok K.cell).refs] at hq; cases hq)

/-- The world grows, no block that was there turns. -/
theorem HeapOK.grow {A:Nat->Prop} {w w':World} {B:Base} {μ:Nat->Value} {h:Nat->HC} (H:HeapOK A w B μ h) (hb:Below w.heap.size w w'):
 HeapOK A w' B μ h/\Keeps A w μ h w' μ h:=by
 have hok:∀ b,okOf A w μ h b->okOf A w' μ h b:=λb hb'=>⟨hb'.1,Nat.lt_of_lt_of_le hb'.2.1 hb.size,hb'.2.2⟩;have hcell:∀ b o,okOf A w μ h b->w'.cell? ⟨b,o,none⟩=w.cell? ⟨b,o,none⟩:=λb o hb'=>cell?_of_heap (hb.block b hb'.2.1) o;have K:Keeps A w μ h w' μ h:=⟨hok,hcell,λr=>.inr ⟨rfl,rfl,rfl⟩⟩;exact ⟨⟨λr o ho=>(H.obj r o ho).keep K λb hb'=>hb.block b ((H.obj r o ho).lt hb').2,H.inj,H.giv,H.clo⟩,K⟩

theorem getD_put (tmps:Array Value) (d t:Nat) (v:Value) (h:d<tmps.size):(tmps.setIfInBounds d v).getD t undef=if t=d then v else tmps.getD t undef:=by
 by_cases e:t=d
 . subst e; simp [Array.getD,h]
 . have:d≠t:=λh=>e h.symm;simp [Array.getD_eq_getD_getElem?,Array.getElem?_setIfInBounds,this,e]

def St.put (S:St) (d:Option Nat) (x:SV):St:=
 match d with
 | some d=>⟨upd S.σ d x,S.h⟩
 | none=>S

def St.heap (S:St) (δ:Option (Nat × HC)):St:=
 match δ with
 | some (r,c)=>⟨S.σ,upd S.h r c⟩
 | none=>S

/-- A new value into a slot, whatever has become of world and heap. -/
theorem RelSt.put' {A:Nat->Prop} {w0:Base} {w w':World} {n:Nat} {S:St} {a:Act} {μ μ':Nat->Value} {h':Nat->HC} {d:Option Nat} {x:SV} {val:Value}
 (hrel:∀ t,RelS w (okOf A w μ S.h) μ S.h (S.σ t) (a.tmps.getD t undef)) (hsize:a.tmps.size=n) (hdef:a.defers=[]) (hA:∀ b,w0.B b->A b)
 (H':HeapOK A w' w0 μ' h') (k:Keeps A w μ S.h w' μ' h') (hbelow:BelowX w0 w')
 (hd:∀ t,d=some t->t<n) (hx:RelS w' (okOf A w' μ' h') μ' h' x val):RelSt A w0 n (St.put ⟨S.σ,h'⟩ d x) (a.put d val) w':=by
 cases d with
 | none=>exact ⟨⟨μ',H',λt=>(hrel t).keep k⟩,hbelow,hsize,hdef,hA⟩
 | some d=>
  refine ⟨⟨μ',H',λt=>?_⟩,hbelow,by simpa [Act.put] using hsize,hdef,hA⟩;simp only [St.put,Act.put];rw [getD_put _ _ _ _ (by rw [hsize]; exact hd d rfl),upd_apply];split
  . exact hx
  . exact (hrel t).keep k
end Go.Vw

namespace Go.Vw
open Go.RowKit (Below)

inductive SX where
 | t (n:Nat)
 | c (v:V)
 | f (id:FuncId)

inductive SO where
 | mv (x:SX)
 | pick (c a b:SX)
 | box (T:TypeId) (x:SX)
 | alloc (T:TypeId) (zs:List V)
 | build (zs:List V) (parts:List (Nat × Nat × SX))
 | mkSl (T:TypeId) (sz:Option Nat) (parts:List SX)
 | load (sz:Option Nat) (a:SX)
 | store (sz:Option Nat) (a v:SX)
 | bin (op:BinOp) (x y:SX)
 | eqb (neg:Bool) (x y:SX)
 | un (op:UnOp) (x:SX)
 | conv (k:IntKind) (x:SX)
 | s2b (x:SX)
 | b2s (x:SX)
 | makeFn (f:FuncId) (caps:List SX)
 | makeB (f:FuncId) (x:SX)
 | make (T:TypeId) (sz:Option Nat) (z:V) (bytes:Nat) (l:SX)
 | slice (sz:Option (Option Nat)) (x:SX) (lo hi:Option SX)
 | fieldAddr (off:Nat) (sz:Option Nat) (a:SX)
 | field (off:Nat) (sz:Option Nat) (x:SX)
 | indexAddr (sz:Option Nat) (x i:SX)
 | index (x i:SX)
 | extract (x:SX) (j:Nat)
 | nilCheck (x:SX)
 | call (f:SX) (args:List SX)
 | len (str:Bool) (x:SX)
 | append (T:TypeId) (sz:Option Nat) (bytes:Nat) (x y:SX)
 | appendZ (T:TypeId) (sz:Option Nat) (z:V) (bytes:Nat) (x l:SX)
 | copy (sz:Option Nat) (x y:SX)
 | mm (isMax:Bool) (x y:SX)
 | nilSl (T:TypeId) (sz:Option Nat)
 | isNil (neg:Bool) (x:SX)
 | isNul (k:Nul) (neg:Bool) (x:SX)
 | mkI (T:TypeId) (x:SX)
 | buildA (zs:List V) (parts:List (Nat × Nat × SX))
 | allocA (T:TypeId) (zs:List V)
 | boxA (T:TypeId) (k:Nat) (x:SX)
 | idxA (k:Nat) (x i:SX)
 | sliceA (k:Nat) (x:SX) (lo hi:Option SX)
 | loadA (k:Nat) (x:SX)
 | storeA (k:Nat) (x v:SX)
 | idxV (k:Nat) (x i:SX)
 | nilFn
 | bad

structure SOp where
 dst:Option Nat
 op:SO
 guard:Option (Nat × Bool)

def V.isAgg:V->Bool
 | .agg _=>true
 | _=>false

def V.cells:V->List V
 | .agg cs=>cs
 | v=>[v]

/-- Has v this form? -/
def V.fits (sz:Option Nat) (v:V):Prop:=
 match sz with
 | none=>v.isAgg=false
 | some n=>v.isAgg=true/\v.cells.length=n

def V.part (cs:List V) (off:Nat):Option Nat->V
 | none=>cs.getD off default
 | some n=>.agg ((cs.drop off).take n)

def partOk (cs:List V) (off:Nat):Option Nat->Prop
 | none=>off<cs.length
 | some n=>off+n<=cs.length

/-- The parts of a struct, laid over its zero cells: (offset, size) and value. -/
def fillV (zs:List V):List (Nat × Nat)->List V->List V
 | (off,n)::ps,v::vs=>fillV (zs.take off++v.cells++zs.drop (off+n)) ps vs
 | _,_=>zs

def fillOk:List (Nat × Nat)->List V->Prop
 | (off,n)::ps,v::vs=>v.cells.length=n/\fillOk ps vs
 | [],[]=>True
 | _,_=>False

/-- The parts of a list of slots, if all of them are plain. -/
def plains:List SV->Option (List V)
 | []=>some []
 | .p v::rest=>(plains rest).map (v:: ·)
 | _::_=>none

inductive AR where
 | v (c:Prop) (x:SV) (δ:Option (Nat × HC))
 | call (f:FuncId) (args:List V)
 | callG (f:FuncId) (c:Prop) (r:Nat) (o:HObj) (args:List V)
 | stuck

def abin (op:BinOp):V->V->Option (Prop × V)
 | .i k a,.i k' b=>
  match op with
  | .shl=>some (0<=b,.i k (k.wrap (a*2^(min b.toNat k.bits))))
  | .shr=>some (0<=b,.i k (a.fdiv (2^(min b.toNat k.bits))))
  | .add=>some (k=k',.i k (k.wrap (a+b)))
  | .sub=>some (k=k',.i k (k.wrap (a-b)))
  | .mul=>some (k=k',.i k (k.wrap (a*b)))
  | .quo=>some (k=k'/\b≠0,.i k (k.wrap (a.tdiv b)))
  | .rem=>some (k=k'/\b≠0,.i k (a.tmod b))
  | .and=>some (k=k',.i k (k.wrap (BitVec.ofInt k.bits a &&& BitVec.ofInt k.bits b).toNat))
  | .or=>some (k=k',.i k (k.wrap (BitVec.ofInt k.bits a ||| BitVec.ofInt k.bits b).toNat))
  | .xor=>some (k=k',.i k (k.wrap (BitVec.ofInt k.bits a ^^^ BitVec.ofInt k.bits b).toNat))
  | .andNot=>some (k=k',.i k (k.wrap (BitVec.ofInt k.bits a &&& ~~~(BitVec.ofInt k.bits b)).toNat))
  | .eql=>some (k=k',.b (a == b))
  | .neq=>some (k=k',.b (a != b))
  | .lss=>some (k=k',.b (decide (a<b)))
  | .leq=>some (k=k',.b (decide (a<=b)))
  | .gtr=>some (k=k',.b (decide (a>b)))
  | .geq=>some (k=k',.b (decide (a≥b)))
 | .s a,.s b=>
  match op with
  | .add=>some (((a.size+b.size:Nat):Int)<=IntKind.i64.max,.s (a++b))
  | .eql=>some (True,.b (a.toList == b.toList))
  | .neq=>some (True,.b (!(a.toList == b.toList)))
  | _=>none
 | _,_=>none

def aun (op:UnOp):V->Option V
 | .b x=>match op with | .not=>some (.b (!x)) | _=>none
 | .i k n=>match op with
  | .neg=>some (.i k (k.wrap (0-n)))
  | .xor=>some (.i k (k.wrap (BitVec.ofInt k.bits (if k.signed then -1 else k.max) ^^^ BitVec.ofInt k.bits n).toNat))
  | _=>none
 | _=>none

def St.ev (S:St):SX->SV
 | .t n=>S.σ n
 | .c v=>.p v
 | .f id=>.p (.clo id [])

/-- The elements of a slice that may be read. -/
def St.elems (S:St) (sz:Option Nat):SV->Option (Prop × List V)
 | .p (.sl sz' xs)=>some (sz=sz',xs)
 | .own r g off len=>
  match (S.h r).o with
  | some (.arr _ sz' xs)=>some (g=(S.h r).g/\sz=sz'/\off+len<=xs.length,(xs.drop off).take len)
  | _=>none
 | _=>none

def V.byte:V->UInt8
 | .i _ n=>UInt8.ofNat n.toNat
 | _=>0

def bytesV (s:ByteArray):List V:=s.data.toList.map λb=>.i .u8 b.toNat

def lowV (d:Int):Option SV->Option Int
 | none=>some d
 | some (.p (.i _ n))=>some n
 | _=>none

def aop (pd:List Nat) (S:St) (dst:Option Nat):SO->AR
 | .bad=>.stuck
 | .nilFn=>.v True .any none
 | .mv x=>.v True (S.ev x) none
 | .pick c a b=>
  match S.ev c with
  | .p (.b t)=>.v True (if t then S.ev a else S.ev b) none
  | _=>.stuck
 | .box T x=>
  match S.ev x,dst with
  | .p v,some d=>.v True (.ptr d ((S.h d).g+1) 0) (some (d,⟨(S.h d).g+1,some (.box T v.cells)⟩))
  | _,_=>.stuck
 | .alloc T zs=>
  match dst with
  | some d=>.v True (.ptr d ((S.h d).g+1) 0) (some (d,⟨(S.h d).g+1,some (.box T zs)⟩))
  | none=>.stuck
 | .build zs parts=>
  match plains (parts.map λp=>S.ev p.2.2) with
  | some vs=>.v (fillOk (parts.map λp=>(p.1,p.2.1)) vs) (.p (.agg (fillV zs (parts.map λp=>(p.1,p.2.1)) vs))) none
  | none=>.stuck
 | .mkSl T sz parts=>
  match plains (parts.map S.ev),dst with
  | some vs,some d=>
   if pd.contains d then .v (∀ v∈vs,v.fits sz) (.own d ((S.h d).g+1) 0 vs.length) (some (d,⟨(S.h d).g+1,some (.arr T sz vs)⟩))
   else .v (∀ v∈vs,v.fits sz) (.p (.sl sz vs)) none
  | _,_=>.stuck
 | .load sz a=>
  match S.ev a with
  | .p (.ref sz' v)=>.v (sz=sz') (.p v) none
  | .ptr r g j=>
   match (S.h r).o with
   | some (.box _ cs)=>.v (g=(S.h r).g/\partOk cs j sz) (.p (V.part cs j sz)) none
   | some (.arr _ sz' xs)=>.v (g=(S.h r).g/\sz=sz'/\j<xs.length) (.p (xs.getD j default)) none
   | _=>.stuck
  | _=>.stuck
 | .store sz a x=>
  match S.ev a,S.ev x with
  | .ptr r g j,.p v=>
   match (S.h r).o with
   | some (.box T cs)=>.v (g=(S.h r).g/\v.fits sz/\j+v.cells.length<=cs.length) (.tup []) (some (r,⟨g,some (.box T (cs.take j++v.cells++cs.drop (j+v.cells.length)))⟩))
   | some (.arr T sz' xs)=>.v (g=(S.h r).g/\sz=sz'/\v.fits sz/\j<xs.length) (.tup []) (some (r,⟨g,some (.arr T sz' (xs.set j v))⟩))
   | _=>.stuck
  | _,_=>.stuck
 | .bin op x y=>
  match S.ev x,S.ev y with
  | .p a,.p b=>match abin op a b with | some (c,v)=>.v c (.p v) none | none=>.stuck
  | _,_=>.stuck
 | .eqb neg x y=>
  match S.ev x,S.ev y with
  | .p (.b a),.p (.b b)=>.v True (.p (.b (if neg then a != b else a == b))) none
  | _,_=>.stuck
 | .un op x=>
  match S.ev x with
  | .p a=>match aun op a with | some v=>.v True (.p v) none | none=>.stuck
  | _=>.stuck
 | .conv k x=>
  match S.ev x with
  | .p (.i _ n)=>.v True (.p (.i k (k.wrap n))) none
  | _=>.stuck
 | .s2b x=>
  match S.ev x with
  | .p (.s s)=>.v (s.size<=2^62) (.p (.sl none (bytesV s))) none
  | _=>.stuck
 | .b2s x=>
  match S.elems none (S.ev x) with
  | some (c,xs)=>.v (c/\∃ l:List UInt8,xs=l.map λb=>V.i .u8 b.toNat) (.p (.s ⟨(xs.map V.byte).toArray⟩)) none
  | none=>.stuck
 | .makeFn f caps=>
  match plains (caps.map S.ev) with
  | some vs=>.v True (.p (.clo f vs)) none
  | none=>.stuck
 | .makeB f x=>
  match S.ev x with
  | .ptr r g j=>.v (g=(S.h r).g/\j=0) (.bnd f r g) none
  | _=>.stuck
 | .make T sz z bytes l=>
  match S.ev l,dst with
  | .p (.i _ n),some d=>
   if pd.contains d then .v (0<=n/\n*bytes<=2^47/\n<=2^47) (.p (.sl sz (List.replicate n.toNat z))) none
   else .v (0<=n/\n*bytes<=2^47/\n<=2^47) (.own d ((S.h d).g+1) 0 n.toNat) (some (d,⟨(S.h d).g+1,some (.arr T sz (List.replicate n.toNat z))⟩))
  | _,_=>.stuck
 | .slice sz x lo hi=>
  match S.ev x with
  | .p (.sl sz' xs)=>
   match lowV 0 (lo.map S.ev),lowV xs.length (hi.map S.ev) with
   | some l,some h=>.v (sz=some sz'/\0<=l/\l<=h/\h<=xs.length) (.p (.sl sz' ((xs.take h.toNat).drop l.toNat))) none
   | _,_=>.stuck
  | .p (.s s)=>
   match lowV 0 (lo.map S.ev),lowV s.size (hi.map S.ev) with
   | some l,some h=>.v (sz=none/\0<=l/\l<=h/\h<=s.size) (.p (.s (s.extract l.toNat h.toNat))) none
   | _,_=>.stuck
  | .own r g off len=>
   match (S.h r).o,lowV 0 (lo.map S.ev),lowV len (hi.map S.ev) with
   | some (.arr _ sz' _),some l,some h=>.v (g=(S.h r).g/\sz=some sz'/\0<=l/\l<=h/\h<=len) (.own r g (off+l.toNat) (h.toNat-l.toNat)) none
   | _,_,_=>.stuck
  | _=>.stuck
 | .fieldAddr off sz a=>
  match S.ev a with
  | .ptr r g j=>
   match (S.h r).o with
   | some (.box _ _)=>.v (g=(S.h r).g) (.ptr r g (j+off)) none
   | _=>.stuck
  | .p (.ref (some _) v)=>.v (v.isAgg=true/\partOk v.cells off sz) (.p (.ref sz (V.part v.cells off sz))) none
  | _=>.stuck
 | .field off sz x=>
  match S.ev x with
  | .p v=>.v (v.isAgg=true/\partOk v.cells off sz) (.p (V.part v.cells off sz)) none
  | _=>.stuck
 | .indexAddr sz x i=>
  match S.ev x,S.ev i with
  | .p (.sl sz' xs),.p (.i _ n)=>.v (sz=sz'/\0<=n/\n<xs.length) (.p (.ref sz (xs.getD n.toNat default))) none
  | .own r g off len,.p (.i _ n)=>
   match (S.h r).o with
   | some (.arr _ sz' xs)=>.v (g=(S.h r).g/\sz=sz'/\0<=n/\n<len) (.ptr r g (off+n.toNat)) none
   | _=>.stuck
  | _,_=>.stuck
 | .index x i=>
  match S.ev x,S.ev i with
  | .p (.s s),.p (.i _ n)=>.v (0<=n/\n<s.size) (.p (.i .u8 ((s.data.toList.getD n.toNat 0).toNat:Nat))) none
  | _,_=>.stuck
 | .extract x j=>
  match S.ev x with
  | .tup vs=>.v (j<vs.length) (vs.getD j .any) none
  | _=>.stuck
 | .nilCheck x=>
  match S.ev x with
  | .ptr r g j=>.v (g=(S.h r).g) (.ptr r g j) none
  | .p (.ref sz v)=>.v True (.p (.ref sz v)) none
  | .p (.clo f c)=>.v True (.p (.clo f c)) none
  | _=>.stuck
 | .call f args=>
  match S.ev f,plains (args.map S.ev) with
  | .p (.clo id caps),some vs=>.call id (vs++caps)
  | .p (.clo id caps),none=>
   match args.map S.ev with
   | .own r g off len::rest=>
    match (S.h r).o,plains rest with
    | some (.arr T sz xs),some vs=>.callG id (g=(S.h r).g/\off=0/\len=xs.length) r (.arr T sz xs) (vs++caps)
    | _,_=>.stuck
   | .ptr r g j::rest=>
    match (S.h r).o,plains rest with
    | some (.box T cs),some vs=>.callG id (g=(S.h r).g/\j=0) r (.box T cs) (vs++caps)
    | _,_=>.stuck
   | _=>.stuck
  | .bnd id r g,some vs=>
   match (S.h r).o with
   | some (.box T cs)=>.callG id (g=(S.h r).g) r (.box T cs) vs
   | _=>.stuck
  | _,_=>.stuck
 | .len str x=>
  match S.ev x with
  | .p (.sl _ xs)=>.v (str=false) (.p (.i .i64 xs.length)) none
  | .p (.s s)=>.v (str=true) (.p (.i .i64 s.size)) none
  | .own r g off len=>.v (str=false/\g=(S.h r).g) (.p (.i .i64 len)) none
  | _=>.stuck
 | .append T sz bytes x y=>
  match S.ev x,S.elems sz (S.ev y),dst with
  | .own r g off len,some (c,ys),some d=>
   match (S.h r).o with
   | some (.arr T' sz' xs)=>
    if pd.contains d then .v (c/\g=(S.h r).g/\off=0/\T'=T/\sz'=sz/\len<=xs.length/\(len+ys.length)*bytes<=2^47/\len+ys.length<=2^47) (.p (.sl sz (xs.take len++ys))) (some (r,⟨g+1,none⟩))
    else .v (c/\g=(S.h r).g/\off=0/\T'=T/\sz'=sz/\len<=xs.length/\(len+ys.length)*bytes<=2^47/\len+ys.length<=2^47) (.own r (g+1) 0 (len+ys.length)) (some (r,⟨g+1,some (.arr T sz (xs.take len++ys))⟩))
   | _=>.stuck
  | _,_,_=>.stuck
 | .appendZ T sz z bytes x l=>
  match S.ev x,S.ev l,dst with
  | .own r g off len,.p (.i _ m),some d=>
   match (S.h r).o with
   | some (.arr T' sz' xs)=>
    if pd.contains d then .v (0<=m/\g=(S.h r).g/\off=0/\T'=T/\sz'=sz/\len<=xs.length/\(len+m.toNat)*bytes<=2^47/\len+m.toNat<=2^47) (.p (.sl sz (xs.take len++List.replicate m.toNat z))) (some (r,⟨g+1,none⟩))
    else .v (0<=m/\g=(S.h r).g/\off=0/\T'=T/\sz'=sz/\len<=xs.length/\(len+m.toNat)*bytes<=2^47/\len+m.toNat<=2^47) (.own r (g+1) 0 (len+m.toNat)) (some (r,⟨g+1,some (.arr T sz (xs.take len++List.replicate m.toNat z))⟩))
   | _=>.stuck
  | _,_,_=>.stuck
 | .copy sz x y=>
  match S.ev x,S.elems sz (S.ev y) with
  | .own r g off len,some (c,ys)=>
   match (S.h r).o with
   | some (.arr T' sz' xs)=>
    .v (c/\g=(S.h r).g/\sz'=sz/\off+len<=xs.length) (.p (.i .i64 ((min ys.length len:Nat):Int)))
     (some (r,⟨g,some (.arr T' sz (xs.take off++ys.take (min ys.length len)++xs.drop (off+min ys.length len)))⟩))
   | _=>.stuck
  | _,_=>.stuck
 | .mm isMax x y=>
  match S.ev x,S.ev y with
  | .p (.i k a),.p (.i k' b)=>.v True (.p (.i k (if isMax then (if b>a then b else a) else (if b<a then b else a)))) none
  | _,_=>.stuck
 | .nilSl T sz=>
  match dst with
  | some d=>
   if pd.contains d then .v True (.own d ((S.h d).g+1) 0 0) (some (d,⟨(S.h d).g+1,some (.arr T sz [])⟩))
   else .v True (.p (.sl sz [])) none
  | none=>.stuck
 | .mkI T x=>
  match S.ev x with
  | .p v=>.v True (.p (.ifc T v)) none
  | _=>.stuck
 | .buildA zs parts=>
  match plains (parts.map λp=>S.ev p.2.2) with
  | some vs=>.v (fillOk (parts.map λp=>(p.1,p.2.1)) vs) (.p (.agg (fillV zs (parts.map λp=>(p.1,p.2.1)) vs))) none
  | none=>.stuck
 | .allocA T zs=>
  match dst with
  | some d=>.v True (.arrp d ((S.h d).g+1) zs.length) (some (d,⟨(S.h d).g+1,some (.arr T none zs)⟩))
  | none=>.stuck
 | .boxA T k x=>
  match S.ev x,dst with
  | .p (.agg cs),some d=>.v (cs.length=k) (.arrp d ((S.h d).g+1) k) (some (d,⟨(S.h d).g+1,some (.arr T none cs)⟩))
  | _,_=>.stuck
 | .idxA k x i=>
  match S.ev x,S.ev i with
  | .arrp r g k',.p (.i _ n)=>
   match (S.h r).o with
   | some (.arr _ none _)=>.v (g=(S.h r).g/\k'=k/\0<=n/\n<k) (.ptr r g n.toNat) none
   | _=>.stuck
  | _,_=>.stuck
 | .sliceA k x lo hi=>
  match S.ev x,lowV 0 (lo.map S.ev),lowV k (hi.map S.ev) with
  | .arrp r g k',some l,some h=>
   match (S.h r).o with
   | some (.arr _ none _)=>.v (g=(S.h r).g/\k'=k/\0<=l/\l<=h/\h<=k) (.own r g l.toNat (h.toNat-l.toNat)) none
   | _=>.stuck
  | _,_,_=>.stuck
 | .loadA k x=>
  match S.ev x with
  | .arrp r g k'=>
   match (S.h r).o with
   | some (.arr _ none xs)=>.v (g=(S.h r).g/\xs.length=k) (.p (.agg xs)) none
   | _=>.stuck
  | _=>.stuck
 | .storeA k x y=>
  match S.ev x,S.ev y with
  | .arrp r g k',.p (.agg cs)=>
   match (S.h r).o with
   | some (.arr T none xs)=>.v (g=(S.h r).g/\xs.length=k/\cs.length=k) (.tup []) (some (r,⟨g,some (.arr T none cs)⟩))
   | _=>.stuck
  | _,_=>.stuck
 | .idxV k x i=>
  match S.ev x,S.ev i with
  | .p (.agg cs),.p (.i _ n)=>.v (cs.length=k/\0<=n/\n<k) (.p (cs.getD n.toNat default)) none
  | _,_=>.stuck
 | .isNul k neg x=>
  match S.ev x with
  | .p (.nul k')=>.v (k'=k) (.p (.b (!neg))) none
  | .p (.ref _ _)=>.v (k= .ptr) (.p (.b neg)) none
  | .ptr r g _=>.v (k= .ptr/\g=(S.h r).g) (.p (.b neg)) none
  | .p (.ifc _ _)=>.v (k= .iface) (.p (.b neg)) none
  | .p (.clo _ _)=>.v (k= .func) (.p (.b neg)) none
  | _=>.stuck
 | .isNil neg x=>
  match S.ev x with
  | .p (.sl _ (_::_))=>.v True (.p (.b neg)) none
  | .p (.sl _ [])=>.v True .bool none
  | _=>.stuck

/-! ### Contracts -/

inductive RV where
 | pure (v:V)
 | own (T:TypeId) (sz:Option Nat) (xs:List V)

def RV.isOwn:RV->Bool
 | .own _ _ _=>true
 | _=>false

def ArgRel (w:World) (ok:Nat->Prop) (args:List V) (vals:Array Value):Prop:=
 vals.size=args.length/\∀ j (h:j<args.length),RelV w ok (args[j]) (vals.getD j undef)

def okR (ok:Nat->Prop) (w w':World) (rvs:List RV) (vals:List Value) (b:Nat):Prop:=
 (ok b\/w.heap.size<=b)/\b<w'.heap.size/\∀ j rv,rvs[j]? =some rv->rv.isOwn=true->blk (vals.getD j undef)≠some b

def RelRV (w':World) (ok:Nat->Prop) (B:Nat->Prop) (rv:RV) (val:Value):Prop:=
 match rv with
 | .pure v=>RelV w' ok v val
 | .own T sz xs=>RelObj w' ok B val (.arr T sz xs)

structure RetOK (w w':World) (ok:Nat->Prop) (rvs:List RV) (vals:List Value):Prop where
 len:vals.length=rvs.length
 rel:∀ j rv,rvs[j]? =some rv->RelRV w' (okR ok w w' rvs vals) (w.heap.size<=·) rv (vals.getD j undef)
 apart:∀ j k a c b,rvs[j]? =some a->rvs[k]? =some c->a.isOwn=true->c.isOwn=true->blk (vals.getD j undef)=some b->blk (vals.getD k undef)=some b->j=k

def packed (vals:List Value):Value:=match vals with | [v]=>v | vs=>.tuple vs.toArray

/-- A call of f: it enters the body, or (a function without one) it answers at once. -/
def CallsX (P:Program) (f:FuncId) (vals:Array Value) (w:World) (R:Ending->World->Prop):Prop:=
 ((callFunc f vals).run P w= .ok (.enter f vals) w/\Calls P f vals w R)\/∃ v,(callFunc f vals).run P w= .ok (.value v) w/\R (.returned v) w

theorem CallsX.mono {P:Program} {f:FuncId} {vals:Array Value} {w:World} {R R':Ending->World->Prop} (h:CallsX P f vals w R) (hr:∀ e w',R e w'->R' e w'):CallsX P f vals w R':=by
 rcases h with ⟨h1,h2⟩ | ⟨v,h1,h2⟩
 . exact .inl ⟨h1,h2.mono hr⟩
 . exact .inr ⟨v,h1,hr _ _ h2⟩

/-- THE CONTRACT: called with values that read as 'args', the function returns, and what it returns reads as one of the lists of 'R'; nothing that was there has turned. -/
def Spec (P:Program) (f:FuncId) (args:List V) (R:List RV->Prop):Prop:=
 ∀ (w:World) (ok:Nat->Prop) (vals:Array Value),(∀ b,ok b->b<w.heap.size)->ArgRel w ok args vals->
  CallsX P f vals w λe w'=>∃ rvs vs,R rvs/\e= .returned (packed vs)/\Below w.heap.size w w'/\RetOK w w' ok rvs vs

/-- What a call with an owned first argument hands back: a value without memory, or a part of that row. -/
inductive GV where
 | pure (v:V)
 | sub (off len:Nat)

def V.scalar:V->Bool
 | .b _=>true
 | .i _ _=>true
 | .s _=>true
 | _=>false

def okG (ok:Nat->Prop) (w w':World) (base:Value) (b:Nat):Prop:=(ok b\/w.heap.size<=b)/\b<w'.heap.size/\blk base≠some b

/-- Nothing that was there has turned but that one block. -/
structure BelowG (base:Value) (w w':World):Prop where
 os:w'.os=w.os
 tape:w'.tape=w.tape
 output:w'.output=w.output
 size:w.heap.size<=w'.heap.size
 block:∀ k,k<w.heap.size->blk base≠some k->w'.heap[k]? =w.heap[k]?

def RelGV (base:Value) (wd:Nat) (gv:GV) (val:Value):Prop:=
 match gv with
 | .pure v=>∀ (w:World) (ok:Nat->Prop),RelV w ok v val
 | .sub off len=>SubOf base wd off len val

/-- THE CONTRACT of a function that is given a row or a box as its first argument, and may turn it: it is the same row or box afterwards, with what R says in it. -/
def SpecG (P:Program) (f:FuncId) (o:HObj) (args:List V) (R:HObj->List GV->Prop):Prop:=
 ∀ (w:World) (ok:Nat->Prop) (base:Value) (vals:Array Value),(∀ b,ok b->b<w.heap.size)->RelObj w ok (λ_=>True) base o->(∀ b,blk base=some b->¬ ok b)->ArgRel w ok args vals->
  CallsX P f (#[base]++vals) w λe w'=>∃ o' gvs vs,R o' gvs/\o'.width=o.width/\e= .returned (packed vs)/\BelowG base w w'/\RelObj w' (okG ok w w' base) (λ_=>True) base o'/\
   vs.length=gvs.length/\∀ j gv,gvs[j]? =some gv->RelGV base o.width gv (vs.getD j undef)

def gvSV (r g:Nat):GV->SV
 | .pure v=>.p v
 | .sub off len=>.own r g off len

def gsSV (r g:Nat):List GV->SV
 | [x]=>gvSV r g x
 | xs=>.tup (xs.map (gvSV r g))

def St.giv (S:St) (dst:Option Nat) (r:Nat) (o':HObj) (gvs:List GV):St:=(S.heap (some (r,⟨(S.h r).g,some o'⟩))).put dst (gsSV r (S.h r).g gvs)

def ownAt (rvs:List RV) (j:Nat):Bool:=match rvs[j]? with | some rv=>rv.isOwn | none=>false

theorem ownAt_true {rvs:List RV} {j:Nat} (h:ownAt rvs j=true):∃ T sz xs,rvs[j]? =some (.own T sz xs):=by
 unfold ownAt at h;split at h
 . rename_i rv hr;cases rv with
   | pure v=>cases h
   | own T sz xs=>exact ⟨T,sz,xs,hr⟩
 . cases h

/-- The place of an owned result among the results: reference d, d + 1000, .. -/
def ownIdx (d:Nat) (rvs:List RV) (k:Nat):Option Nat:=
 if d<=k/\(k-d)%1000=0/\ownAt rvs ((k-d) / 1000)=true then some ((k-d) / 1000) else none

def retH (h:Nat->HC) (d:Nat) (rvs:List RV) (k:Nat):HC:=
 match ownIdx d rvs k with
 | some j=>match rvs[j]? with
  | some (.own T sz xs)=>⟨(h k).g+1,some (.arr T sz xs)⟩
  | _=>h k
 | none=>h k

def svOf (h:Nat->HC) (d j:Nat):RV->SV
 | .pure v=>.p v
 | .own T sz xs=>.own (d+1000*j) ((h (d+1000*j)).g+1) 0 xs.length

def svsOf (h:Nat->HC) (d:Nat):Nat->List RV->List SV
 | _,[]=>[]
 | j,rv::rest=>svOf h d j rv::svsOf h d (j+1) rest

theorem svsOf_length (h:Nat->HC) (d:Nat):∀ (rvs:List RV) (j:Nat),(svsOf h d j rvs).length=rvs.length
 | [],_=>rfl
 | rv::rest,j=>by simp [svsOf,svsOf_length h d rest]

theorem svsOf_get' (h:Nat->HC) (d:Nat):∀ (rvs:List RV) (j i:Nat) (hi:i<rvs.length),(svsOf h d j rvs)[i]'(by rw [svsOf_length]; exact hi)=svOf h d (j+i) (rvs[i])
 | rv::rest,j,0,_=>rfl
 | rv::rest,j,i+1,hi=>by
  have:=svsOf_get' h d rest (j+1) i (by simpa using hi);simp only [svsOf,List.getElem_cons_succ,this];congr 1; omega

theorem svsOf_get (h:Nat->HC) (d:Nat) (rvs:List RV) (i:Nat) (h':i<(svsOf h d 0 rvs).length) (hi:i<rvs.length):(svsOf h d 0 rvs)[i]=svOf h d i (rvs[i]):=by
 rw [svsOf_get' h d rvs 0 i hi]; simp

def retSV (h:Nat->HC) (d:Nat):List RV->SV
 | [rv]=>svOf h d 0 rv
 | rvs=>.tup (svsOf h d 0 rvs)

def St.ret (S:St) (dst:Option Nat) (rvs:List RV):St:=
 match dst with
 | none=>S
 | some d=>⟨upd S.σ d (retSV S.h d rvs),retH S.h d rvs⟩

/-! ### Rows of rows, and calls that are given owned rows -/

def SV.cell:SV->Bool
 | .p v=> !v.isAgg
 | .own _ _ _ _=>true
 | .nil=>true
 | _=>false

/-- Values whose cells may be stored. -/
def SV.solid:SV->Bool
 | .p _=>true
 | .agg _=>true
 | .own _ _ _ _=>true
 | .nil=>true
 | _=>false

def svCells:SV->List SV
 | .agg cs=>cs
 | .p v=>v.cells.map .p
 | x=>[x]

def svFits (sz:Option Nat) (x:SV):Prop:=
 match sz with
 | none=>x.cell=true
 | some n=>match x with
  | .agg cs=>cs.length=n
  | .p v=>v.isAgg=true/\v.cells.length=n
  | _=>False

def svPack (cs:List SV):SV:=match plains cs with | some vs=>.p (.agg vs) | none=>.agg cs

def svPart (cs:List SV) (off:Nat):Option Nat->SV
 | none=>cs.getD off default
 | some n=>svPack ((cs.drop off).take n)

def partOkS (cs:List SV) (off:Nat):Option Nat->Prop
 | none=>off<cs.length
 | some n=>off+n<=cs.length

def nilZ:V->SV
 | .sl _ []=>.nil
 | v=>.p v

def fillS (zs:List SV):List (Nat × Nat)->List SV->List SV
 | (off,n)::ps,v::vs=>fillS (zs.take off++svCells v++zs.drop (off+n)) ps vs
 | _,_=>zs

def fillOkS:List (Nat × Nat)->List SV->Prop
 | (_,n)::ps,v::vs=>(svCells v).length=n/\v.solid=true/\fillOkS ps vs
 | [],[]=>True
 | _,_=>False

def St.evN (S:St):SX->SV
 | .c (.sl _ [])=>.nil
 | x=>S.ev x

/-- References that stay: an object at one holds no others. -/
def cloC (r:Nat) (xs:List SV):Prop:=1000<=r->∀ x∈xs,∀ q∈svref x,1000<=q

def St.elemsS (S:St):SV->Option (Prop × List SV)
 | .p (.sl sz xs)=>some (sz=none,xs.map .p)
 | .own r g off len=>
  match (S.h r).o with
  | some (.rows _ xs)=>some (g=(S.h r).g/\off+len<=xs.length,(xs.drop off).take len)
  | _=>none
 | _=>none

/-- What operations on rows of rows answer. -/
def aopX (S:St) (dst:Option Nat):SO->AR
 | .mkSl T sz parts=>
  match dst with
  | some d=>.v (sz=none/\(∀ x∈parts.map S.ev,x.cell=true)/\cloC d (parts.map S.ev)) (.own d ((S.h d).g+1) 0 parts.length) (some (d,⟨(S.h d).g+1,some (.rows T (parts.map S.ev))⟩))
  | none=>.stuck
 | .box T x=>
  match S.ev x,dst with
  | .agg cs,some d=>.v (cloC d cs) (.ptr d ((S.h d).g+1) 0) (some (d,⟨(S.h d).g+1,some (.sbox T cs)⟩))
  | _,_=>.stuck
 | .build zs parts=>.v (fillOkS (parts.map λp=>(p.1,p.2.1)) (parts.map λp=>S.evN p.2.2)) (.agg (fillS (zs.map nilZ) (parts.map λp=>(p.1,p.2.1)) (parts.map λp=>S.evN p.2.2))) none
 | .load sz a=>
  match S.ev a with
  | .ptr r g j=>
   match (S.h r).o with
   | some (.rows _ xs)=>.v (g=(S.h r).g/\sz=none/\j<xs.length) (xs.getD j default) none
   | some (.sbox _ cs)=>.v (g=(S.h r).g/\partOkS cs j sz) (svPart cs j sz) none
   | _=>.stuck
  | _=>.stuck
 | .store sz a x=>
  match S.ev a with
  | .ptr r g j=>
   match (S.h r).o with
   | some (.rows T xs)=>.v (g=(S.h r).g/\sz=none/\(S.ev x).cell=true/\j<xs.length/\cloC r [S.ev x]) (.tup []) (some (r,⟨g,some (.rows T (xs.set j (S.ev x)))⟩))
   | some (.sbox T cs)=>.v (g=(S.h r).g/\svFits sz (S.ev x)/\j+(svCells (S.ev x)).length<=cs.length/\cloC r (svCells (S.ev x))) (.tup []) (some (r,⟨g,some (.sbox T (cs.take j++svCells (S.ev x)++cs.drop (j+(svCells (S.ev x)).length)))⟩))
   | some (.box T cs)=>.v (g=(S.h r).g/\svFits sz (S.ev x)/\j+(svCells (S.ev x)).length<=cs.length/\cloC r (svCells (S.ev x))) (.tup []) (some (r,⟨g,some (.sbox T ((cs.map .p).take j++svCells (S.ev x)++(cs.map .p).drop (j+(svCells (S.ev x)).length)))⟩))
   | _=>.stuck
  | _=>.stuck
 | .append T sz bytes x y=>
  match S.ev x,S.elemsS (S.ev y) with
  | .own r g off len,some (c,ys)=>
   match (S.h r).o with
   | some (.rows T' xs)=>.v (c/\sz=none/\g=(S.h r).g/\off=0/\T'=T/\len<=xs.length/\(len+ys.length)*bytes<=2^47/\len+ys.length<=2^47/\cloC r ys) (.own r (g+1) 0 (len+ys.length)) (some (r,⟨g+1,some (.rows T (xs.take len++ys))⟩))
   | some (.arr T' sz' xs)=>.v (c/\sz=none/\sz'=none/\g=(S.h r).g/\off=0/\T'=T/\len<=xs.length/\(len+ys.length)*bytes<=2^47/\len+ys.length<=2^47/\cloC r ys) (.own r (g+1) 0 (len+ys.length)) (some (r,⟨g+1,some (.rows T ((xs.map .p).take len++ys))⟩))
   | _=>.stuck
  | _,_=>.stuck
 | .slice sz x lo hi=>
  match S.ev x,lowV 0 (lo.map S.ev) with
  | .own r g off len,some l=>
   match (S.h r).o,lowV len (hi.map S.ev) with
   | some (.rows _ _),some h=>.v (g=(S.h r).g/\sz=some none/\0<=l/\l<=h/\h<=len) (.own r g (off+l.toNat) (h.toNat-l.toNat)) none
   | _,_=>.stuck
  | _,_=>.stuck
 | .fieldAddr off sz a=>
  match S.ev a with
  | .ptr r g j=>
   match (S.h r).o with
   | some (.sbox _ _)=>.v (g=(S.h r).g) (.ptr r g (j+off)) none
   | _=>.stuck
  | _=>.stuck
 | .field off sz x=>
  match S.ev x with
  | .agg cs=>.v (partOkS cs off sz) (svPart cs off sz) none
  | _=>.stuck
 | .indexAddr sz x i=>
  match S.ev x,S.ev i with
  | .own r g off len,.p (.i _ n)=>
   match (S.h r).o with
   | some (.rows _ xs)=>.v (g=(S.h r).g/\sz=none/\0<=n/\n<len) (.ptr r g (off+n.toNat)) none
   | _=>.stuck
  | _,_=>.stuck
 | _=>.stuck

end Go.Vw

namespace Go.Vw
open Go.RowKit (Below)

theorem RelFlat.nil {w:World} {ok:Nat->Prop} (sz:Option Nat):RelFlat w ok sz [] []:=⟨[],rfl,by simp,by simp,rfl⟩

theorem flat_length {sz:Option Nat}:∀ {vals:List Value},(∀ v∈vals,Shape sz v)->(vals.flatMap (·.cells.toList)).length=vals.length*width sz
 | [],_=>by simp
 | v::r,h=>by
  have h1:=(h v (by simp)).list;have ih:=flat_length (vals:=r) λx hx=>h x (by simp [hx]);simp only [List.flatMap_cons,List.length_append,List.length_cons,ih,h1,Nat.add_mul];omega

theorem RelFlat.length {w:World} {ok:Nat->Prop} {sz:Option Nat} {xs:List V} {flat:List Value} (h:RelFlat w ok sz xs flat):flat.length=xs.length*width sz:=by
 obtain ⟨vals,h1,h2,h3,rfl⟩:=h;rw [flat_length h3,h1]

theorem RelFlat.append {w:World} {ok:Nat->Prop} {sz:Option Nat} {xs ys:List V} {f g:List Value} (h:RelFlat w ok sz xs f) (k:RelFlat w ok sz ys g):
 RelFlat w ok sz (xs++ys) (f++g):=by
 obtain ⟨a,h1,h2,h3,rfl⟩:=h;obtain ⟨b,k1,k2,k3,rfl⟩:=k;refine ⟨a++b,by simp [h1,k1],λj hj=>?_,λv hv=>?_,by simp⟩
 . by_cases hlt:j<xs.length
   . have:=h2 j hlt;rw [List.getElem_append_left hlt]
     simpa [List.getD,List.getElem?_append_left (h1 ▸ hlt:j<a.length)] using this
   . have hj':j-xs.length<ys.length:=by simp at hj; omega
     have:=k2 (j-xs.length) hj';rw [List.getElem_append_right (by omega)]
     simpa [List.getD,List.getElem?_append_right (by omega:a.length<=j),h1] using this
 . rcases List.mem_append.1 hv with h | h
   . exact h3 v h
   . exact k3 v h

theorem flat_take {sz:Option Nat}:∀ {vals:List Value} (k:Nat),(∀ v∈vals,Shape sz v)->((vals.take k).flatMap (·.cells.toList))=(vals.flatMap (·.cells.toList)).take (k*width sz)
 | [],k,_=>by simp
 | v::r,0,h=>by simp
 | v::r,k+1,h=>by
  have h1:=(h v (by simp)).list;have ih:=flat_take (vals:=r) k λx hx=>h x (by simp [hx]);have e1:v.cells.toList.take ((k+1)*width sz)=v.cells.toList:=List.take_of_length_le (by rw [h1,Nat.add_mul]; omega);have e2:(k+1)*width sz-width sz=k*width sz:=by rw [Nat.add_mul]; omega
  simp only [List.take_succ_cons,List.flatMap_cons,ih,List.take_append,h1,e1,e2]

theorem flat_drop {sz:Option Nat}:∀ {vals:List Value} (k:Nat),(∀ v∈vals,Shape sz v)->((vals.drop k).flatMap (·.cells.toList))=(vals.flatMap (·.cells.toList)).drop (k*width sz)
 | [],k,_=>by simp
 | v::r,0,h=>by simp
 | v::r,k+1,h=>by
  have h1:=(h v (by simp)).list;have ih:=flat_drop (vals:=r) k λx hx=>h x (by simp [hx]);have e1:v.cells.toList.drop ((k+1)*width sz)=[]:=List.drop_of_length_le (by rw [h1,Nat.add_mul]; omega);have e2:(k+1)*width sz-width sz=k*width sz:=by rw [Nat.add_mul]; omega
  simp only [List.drop_succ_cons,List.flatMap_cons,ih,List.drop_append,h1,e1,e2,List.nil_append]

theorem RelFlat.take {w:World} {ok:Nat->Prop} {sz:Option Nat} {xs:List V} {f:List Value} (h:RelFlat w ok sz xs f) (k:Nat):
 RelFlat w ok sz (xs.take k) (f.take (k*width sz)):=by
 obtain ⟨a,h1,h2,h3,rfl⟩:=h;refine ⟨a.take k,by simp [h1],λj hj=>?_,λv hv=>h3 v (List.mem_of_mem_take hv),(flat_take k h3).symm⟩;have hj':j<k/\j<xs.length:=by simp at hj; omega
 have:=h2 j hj'.2
 simpa [List.getD,List.getElem?_take,hj'.1] using this

theorem RelFlat.drop {w:World} {ok:Nat->Prop} {sz:Option Nat} {xs:List V} {f:List Value} (h:RelFlat w ok sz xs f) (k:Nat):
 RelFlat w ok sz (xs.drop k) (f.drop (k*width sz)):=by
 obtain ⟨a,h1,h2,h3,rfl⟩:=h;refine ⟨a.drop k,by simp [h1],λj hj=>?_,λv hv=>h3 v (List.mem_of_mem_drop hv),(flat_drop k h3).symm⟩;have hj':k+j<xs.length:=by simp at hj; omega
 have:=h2 (k+j) hj'
 simpa [List.getD,List.getElem?_drop] using this

theorem RelFlat.one {w:World} {ok:Nat->Prop} {sz:Option Nat} {v:V} {val:Value} (h:RelV w ok v val) (hs:Shape sz val):RelFlat w ok sz [v] val.cells.toList:=
 ⟨[val],rfl,λj hj=>by
  have:j=0:=by simp at hj; omega
  subst this; simpa [List.getD] using h,by simpa using hs,by simp⟩

theorem flat_none:∀ l:List Value,(∀ c∈l,c.oneCell'=true)->l.flatMap (·.cells.toList)=l
 | [],_=>rfl
 | c::r,hl=>by
  have hc:=hl c (by simp);have:c.cells.toList=[c]:=by cases c<;>simp_all [Value.oneCell',Value.cells]
  rw [List.flatMap_cons,this,flat_none r λx hx=>hl x (by simp [hx])]; rfl

/-- One-cell parts, put together. -/
theorem RelFlat.agg {w:World} {ok:Nat->Prop} {cs:List V} {f:List Value} (h:RelFlat w ok none cs f):RelV w ok (.agg cs) (.agg f.toArray):=by
 obtain ⟨a,h1,h2,h3,rfl⟩:=h;have h3':∀ c∈a,c.oneCell'=true:=λc hc=>h3 c hc;rw [flat_none a h3'];refine .agg cs _ (by simpa using h1) (λc hc=>h3' c (by simpa using hc)) λj hj=>?_
 simpa [Array.getD_eq_getD_getElem?,List.getD] using h2 j hj

theorem RelFlat.ones {w:World} {ok:Nat->Prop} {sz:Option Nat} {xs:List V} {f:List Value} (h:RelFlat w ok sz xs f):∀ c∈f,c.oneCell'=true:=by
 obtain ⟨a,h1,h2,h3,rfl⟩:=h;intro c hc;obtain ⟨v,hv,hc'⟩:=List.mem_flatMap.1 hc;exact (h3 v hv).one c (by simpa using hc')

/-- Part of a block's row, from an element on, as a slice value. -/
theorem RelFlat.slice {w:World} {ok:Nat->Prop} {sz:Option Nat} {xs:List V} {f:List Value} (h:RelFlat w ok sz xs f) {g off cap:Nat}
 (hr:w.rangeAt g off f) (hok:ok g) (hcap:xs.length<=cap):RelV w ok (.sl sz xs) (.slice (some ⟨g,off,none⟩) xs.length cap):=by
 obtain ⟨a,h1,h2,h3,rfl⟩:=h;refine .sl sz xs g off xs.length cap (λj=>a.getD j undef) rfl hok hcap h2 (λj hj=>?_) λj hj i c hc=>?_
 . have hja:j<a.length:=by omega
   simpa [List.getD,hja] using h3 _ (List.getElem_mem hja)
 . have hja:j<a.length:=by omega
   have hc':a[j].cells.toList[i]? =some c:=by simpa [List.getD,hja] using hc
   have hd:=flat_drop j h3;have hi:i<a[j].cells.toList.length:=(List.getElem?_eq_some_iff.1 hc').1;have:((a.drop j).flatMap (·.cells.toList))[i]? =some c:=by
    rw [List.drop_eq_getElem_cons hja,List.flatMap_cons,List.getElem?_append_left hi]; exact hc'
   rw [hd,List.getElem?_drop] at this;have:=hr _ _ this
   rwa [show off+j*width sz+i=off+(j*width sz+i) by omega]

/-- A slice's elements, as a row of cells: what an append or a copy reads. -/
theorem RelV.flat {w:World} {ok:Nat->Prop} {sz:Option Nat} {xs:List V} {val:Value} (h:RelV w ok (.sl sz xs) val):
 ∃ f,RelFlat w ok sz xs f/\((∃ a,val= .slice a 0 0/\xs=[])\/∃ g off cap,val= .slice (some ⟨g,off,none⟩) xs.length cap/\ok g/\xs.length<=cap/\w.rangeAt g off f):=by
 cases h with
 | nil=>exact ⟨[],RelFlat.nil sz,.inl ⟨none,rfl,rfl⟩⟩
 | void _ a=>exact ⟨[],RelFlat.nil sz,.inl ⟨some a,rfl,rfl⟩⟩
 | sl _ _ g off len cap val hlen hok hcap hrel hsh hcell=>
  subst hlen;have key:∀ (n:Nat),n<=xs.length->RelFlat w ok sz (xs.take n) (((List.range n).map val).flatMap (·.cells.toList))/\w.rangeAt g off (((List.range n).map val).flatMap (·.cells.toList)):=by
   intro n;induction n with
   | zero=>intro _; exact ⟨by simpa using RelFlat.nil sz,by intro j v hj; simp at hj⟩
   | succ n ih=>
    intro hn;obtain ⟨i1,i2⟩:=ih (by omega);have hone:=RelFlat.one (hrel n (by omega)) (hsh n (by omega));have hlen:=i1.length;rw [List.length_take,Nat.min_eq_left (by omega)] at hlen;rw [List.range_succ,List.map_append,List.flatMap_append,List.map_singleton,List.flatMap_singleton];refine ⟨?_,?_⟩
    . rw [List.take_succ_eq_append_getElem (by omega)];exact i1.append hone
    . intro j v hj;by_cases hlt:j<(((List.range n).map val).flatMap (·.cells.toList)).length
      . rw [List.getElem?_append_left hlt] at hj; exact i2 j v hj
      . rw [List.getElem?_append_right (by omega)] at hj;have:=hcell n (by omega) _ _ hj;rw [hlen] at this hlt
        rwa [show off+n*width sz+(j-n*width sz)=off+j by omega] at this
  obtain ⟨k1,k2⟩:=key xs.length (Nat.le_refl _);rw [List.take_length] at k1;exact ⟨_,k1,.inr ⟨g,off,cap,rfl,hok,hcap,k2⟩⟩

theorem rangeAt_of_row {w:World} {g:Nat} {cur:Array Value} {T:TypeId} {fr:Nat × Nat} (h:w.heap[g]? =some (.cells cur T fr)) (off:Nat) (f:List Value)
 (hf:∀ i c,f[i]? =some c->cur.toList[off+i]? =some c):w.rangeAt g off f:=by
 intro j v hj;have:=hf j v hj;simp only [World.cell?,h]
 simpa using this

theorem width_pos_list {sz:Option Nat} (h:sz≠some 0):0<width sz:=by
 cases sz with
 | none=>simp [width]
 | some n=>simp only [width,Option.getD_some]; have:n≠0:=λe=>h (by rw [e]); omega
end Go.Vw

namespace Go.Vw
open Go.RowKit (Below)

def szOf (P:Program) (T:TypeId):Option (Option Nat):=
 match P.underlying T,P.info? T with
 | some d,some i=>
  match d with
  | .struct _ | .array _ _=>some (some i.size)
  | .bool | .int _ | .string | .pointer _ | .slice _ | .func _ _ _ | .interface _ | .map _ _=>if i.size=1 then some none else none
  | _=>none
 | _,_=>none

theorem szOf_spec {P:Program} {T:TypeId} {sz:Option Nat} (h:szOf P T=some sz):
 ∃ d i,P.underlying T=some d/\P.info? T=some i/\i.size=width sz/\d.isRow=sz.isSome:=by
 unfold szOf at h;split at h
 . rename_i d i hd hi;refine ⟨d,i,hd,hi,?_⟩;cases d<;>simp_all [width,TypeDesc.isRow]<;>(try (obtain ⟨h1,h2⟩:=h; subst h2; simp [h1]))<;>(try (subst h; simp))
 . cases h

theorem run_isAgg {P:Program} {T:TypeId} {sz:Option Nat} (h:szOf P T=some sz) (w:World):(isAgg T).run P w= .ok sz.isSome w:=by
 obtain ⟨d,i,hd,hi,h1,h2⟩:=szOf_spec h;unfold isAgg;rw [Sem.run_bind,run_underlying hd w,<-h2];cases d<;>simp [TypeDesc.isRow]

theorem run_sz {P:Program} {T:TypeId} {sz:Option Nat} (h:szOf P T=some sz) (w:World):(sizeOf T).run P w= .ok (width sz) w:=by
 obtain ⟨d,i,hd,hi,h1,h2⟩:=szOf_spec h;simp [sizeOf,typeInfo,hi,h1]

def zeroCells (P:Program):Nat->TypeId->Option (List V)
 | 0,_=>none
 | n+1,T=>
  match P.underlying T with
  | some .bool=>some [.b false]
  | some (.int k)=>some [.i k 0]
  | some .string=>some [.s ByteArray.empty]
  | some (.slice e)=>(szOf P e).map λsz=>[.sl sz []]
  | some (.pointer _)=>some [.nul .ptr]
  | some (.interface _)=>some [.nul .iface]
  | some (.func _ _ _)=>some [.nul .func]
  | some (.map _ _)=>some [.nul .map]
  | some (.array k e)=>if k<=100 then (zeroCells P n e).map λl=>(List.replicate k l).flatten else none
  | some (.struct fs)=>fs.toList.foldr (λf acc=>match zeroCells P n f.type,acc with | some a,some b=>some (a++b) | _,_=>none) (some [])
  | _=>none

def zeroFit:Value->V->Bool
 | .bool x,.b y=>x == y
 | .int k n,.i k' n'=>decide (k=k') && decide (n=n')
 | .string s,.s t=>decide (s=t)
 | .slice none 0 0,.sl _ []=>true
 | .pointer none,.nul .ptr=>true
 | .nilIface,.nul .iface=>true
 | .nilFunc,.nul .func=>true
 | .map none,.nul .map=>true
 | _,_=>false

theorem zeroFit_rel {v:Value} {x:V} (h:zeroFit v x=true) (w:World) (ok:Nat->Prop):RelV w ok x v/\v.oneCell'=true:=by
 unfold zeroFit at h;split at h
 . simp at h; subst h; exact ⟨.b _,rfl⟩
 . simp at h; obtain ⟨rfl,rfl⟩:=h; exact ⟨.i _ _,rfl⟩
 . simp at h; subst h; exact ⟨.s _,rfl⟩
 . exact ⟨.nil _,rfl⟩
 . exact ⟨.nul .ptr,rfl⟩
 . exact ⟨.nul .iface,rfl⟩
 . exact ⟨.nul .func,rfl⟩
 . exact ⟨.nul .map,rfl⟩
 . cases h

def zerosFit:List Value->List V->Bool
 | [],[]=>true
 | v::vs,x::xs=>zeroFit v x && zerosFit vs xs
 | _,_=>false

theorem zerosFit_rel:∀ {vs:List Value} {xs:List V},zerosFit vs xs=true->∀ (w:World) (ok:Nat->Prop),RelFlat w ok none xs vs
 | [],[],_,w,ok=>RelFlat.nil none
 | v::vs,x::xs,h,w,ok=>by
  simp only [zerosFit,Bool.and_eq_true] at h;obtain ⟨h1,h2⟩:=zeroFit_rel h.1 w ok;have:=(RelFlat.one (sz:=none) h1 h2).append (zerosFit_rel h.2 w ok);have hc:v.cells.toList=[v]:=by cases v<;>simp_all [Value.oneCell',Value.cells]
  rw [hc] at this;exact this
 | [],_::_,h,_,_=>by simp [zerosFit] at h
 | _::_,[],h,_,_=>by simp [zerosFit] at h

/-- The zero value's cells. -/
def zeroOf (P:Program) (T:TypeId):Option (List V):=
 match P.info? T,zeroCells P 8 T with
 | some i,some cs=>match i.zero with
  | some z=>if zerosFit z.cells.toList cs then some cs else none
  | none=>none
 | _,_=>none

theorem zeroOf_spec {P:Program} {T:TypeId} {cs:List V} (h:zeroOf P T=some cs):
 ∃ i z,P.info? T=some i/\i.zero=some z/\∀ w ok,RelFlat w ok none cs z.cells.toList:=by
 unfold zeroOf at h;split at h
 . rename_i i cs' hi _;split at h
   . rename_i z hz;split at h
     . rename_i hf;simp only [Option.some.injEq] at h; subst h;exact ⟨i,z,hi,hz,zerosFit_rel hf⟩
     . cases h
   . cases h
 . cases h

theorem run_zero {P:Program} {T:TypeId} {i:TypeInfo} {z:Value} (hi:P.info? T=some i) (hz:i.zero=some z) (w:World):(zeroValue T).run P w= .ok z w:=by
 simp [zeroValue,typeInfo,hi,hz]

/-- The zero value of an element. -/
def zeroV (P:Program) (T:TypeId):Option V:=
 match szOf P T,zeroOf P T with
 | some none,some [v]=>if v.isAgg then none else some v
 | some (some n),some cs=>if cs.length=n then some (.agg cs) else none
 | _,_=>none

theorem zeroV_spec {P:Program} {T:TypeId} {v:V} (h:zeroV P T=some v):
 ∃ sz i z z',szOf P T=some sz/\P.info? T=some i/\i.zero=some z/\z'.cells=z.cells/\Shape sz z'/\∀ w ok,RelV w ok v z':=by
 unfold zeroV at h;split at h
 . rename_i v' hs hz;split at h
   . cases h
   . rename_i hagg;simp only [Option.some.injEq] at h; subst h;obtain ⟨i,z,hi,hz',hr⟩:=zeroOf_spec hz;have hl:=(hr default (λ_=>True)).length;have h1:z.cells.size=1:=by simpa [width] using hl
     have hrel:∀ w ok,RelV w ok v' z.cells[0]:=by
      intro w ok;obtain ⟨vals,a1,a2,a3,a4⟩:=hr w ok
      match vals,a1 with
      | [x],_=>
       have hx:x.oneCell'=true:=a3 x (by simp);have hc:x.cells.toList=[x]:=by cases x<;>simp_all [Value.oneCell',Value.cells]
       have:z.cells.toList=[x]:=by rw [a4]; simp [hc]
       have h0:=a2 0 (by simp);have:z.cells[0]=x:=by
        have e:z.cells.toList[0]? =some x:=by rw [this]; rfl
        have e2:z.cells.toList[0]? =some z.cells[0]:=by simp [h1]
        rw [e2] at e; exact Option.some.inj e
       rw [this]; simpa [List.getD] using h0
     have hone:z.cells[0].oneCell'=true:=(hr default (λ_=>True)).ones _ (by simp);refine ⟨none,i,z,z.cells[0],hs,hi,hz',?_,hone,hrel⟩;have:z.cells=#[z.cells[0]]:=by
      apply Array.ext
      . simp [h1]
      . intro j h1' h2';have:j=0:=by simp at h2'; omega
        subst this; rfl
     have hc:z.cells[0].cells=#[z.cells[0]]:=by generalize z.cells[0]=x at *; cases x<;>simp_all [Value.oneCell',Value.cells]
     rw [hc]; exact this.symm
 . rename_i n cs hs hz;split at h
   . rename_i hn;simp only [Option.some.injEq] at h; subst h;obtain ⟨i,z,hi,hz',hr⟩:=zeroOf_spec hz;have hl:=(hr default (λ_=>True)).length;refine ⟨some n,i,z,.agg z.cells,hs,hi,hz',rfl,⟨z.cells,rfl,?_,λc hc=>(hr default (λ_=>True)).ones c (by simpa using hc)⟩,λw ok=>?_⟩
     . simp [width] at hl; omega
     . simpa using (hr w ok).agg
   . cases h
 . cases h

def cst (P:Program) (T:TypeId):Value->Option V
 | .bool x=>some (.b x)
 | .int k n=>some (.i k n)
 | .string s=>some (.s s)
 | .slice none 0 0=>match P.underlying T with | some (.slice e)=>(szOf P e).map λsz=>.sl sz [] | _=>none
 | .agg cells=>match zeroOf P T with | some cs=>if zerosFit cells.toList cs then some (.agg cs) else none | none=>none
 | .pointer none=>some (.nul .ptr)
 | .nilIface=>some (.nul .iface)
 | .nilFunc=>some (.nul .func)
 | .map none=>some (.nul .map)
 | _=>none

theorem cst_rel {P:Program} {T:TypeId} {v:Value} {x:V} (h:cst P T v=some x) (w:World) (ok:Nat->Prop):RelV w ok x v:=by
 unfold cst at h;split at h
 . simp at h; subst h; exact .b _
 . simp at h; subst h; exact .i _ _
 . simp at h; subst h; exact .s _
 . split at h
   . simp at h; obtain ⟨sz,_,rfl⟩:=h; exact .nil _
   . cases h
 . split at h
   . split at h
     . rename_i hf;simp at h; subst h;have:=(zerosFit_rel hf w ok).agg
       simpa using this
     . cases h
   . cases h
 . simp at h; subst h; exact .nul .ptr
 . simp at h; subst h; exact .nul .iface
 . simp at h; subst h; exact .nul .func
 . simp at h; subst h; exact .nul .map
 . cases h

def tsz (P:Program) (T:TypeId):Nat:=((P.info? T).map (·.size)).getD 0

def slimX (P:Program) (T:TypeId):Operand->Option SX
 | .tmp t=>some (.t t)
 | .const v=>(cst P T v).map .c
 | .func f=>some (.f f)
 | .global _=>none

def slimXs (P:Program):List Operand->List TypeId->Option (List SX)
 | [],_=>some []
 | x::xs,ts=>
  match slimX P (ts.headD 0) x,slimXs P xs ts.tail with
  | some a,some b=>some (a::b)
  | _,_=>none

def slimO (P:Program):Option Operand->Option (Option SX)
 | none=>some none
 | some x=>(slimX P 0 x).map some

def slimParts (P:Program) (fs:Array Field):List (Nat × Operand)->Option (List (Nat × Nat × SX))
 | []=>some []
 | (i,x)::rest=>
  match fs[i]? with
  | some f=>
   match szOf P f.type,slimX P f.type x,slimParts P fs rest with
   | some sz,some a,some r=>some ((f.offset,width sz,a)::r)
   | _,_,_=>none
  | none=>none

def inRow:Nat->List (Nat × Operand)->Bool
 | _,[]=>true
 | k,(i,_)::rest=>i == k && inRow (k+1) rest

def sameOpd:Operand->Operand->Bool
 | .tmp a,.tmp b=>a == b
 | .const (.int _ a),.const (.int _ b)=>a == b
 | _,_=>false

def slimCall (P:Program) (o:Oper) (c:Call):Option SO:=
 match c.callee with
 | .value f=>
  match slimX P 0 f,slimXs P c.args.toList c.argTypes.toList with
  | some f,some args=>some (.call f args)
  | _,_=>none
 | .builtin .len=>
  match c.args.toList,c.argTypes.toList with
  | [x],[T]=>
   match P.underlying T with
   | some (.slice _)=>(slimX P T x).map (.len false)
   | some .string=>(slimX P T x).map (.len true)
   | _=>none
  | _,_=>none
 | .builtin .append=>
  match c.args.toList,c.argTypes.toList with
  | [x,y],[T,T']=>
   match P.underlying T,P.underlying T' with
   | some (.slice e),some (.slice _)=>
    match szOf P e,zeroV P e,P.info? e,slimX P T x,slimX P T' y with
    | some sz,some _,some i,some a,some b=>if T == T' && sz != some 0 then some (.append e sz i.bytes a b) else none
    | _,_,_,_,_=>none
   | some (.slice e),some (.int _)=>
    match szOf P e,zeroV P e,P.info? e,slimX P T x,slimX P T' y with
    | some sz,some z,some i,some a,some b=>if sz != some 0 then some (.appendZ e sz z i.bytes a b) else none
    | _,_,_,_,_=>none
   | _,_=>none
  | _,_=>none
 | .builtin .copy=>
  match c.args.toList,c.argTypes.toList with
  | [x,y],[T,T']=>
   if T == T' then
    match P.underlying T with
    | some (.slice e)=>
     match szOf P e,slimX P T x,slimX P T' y with
     | some sz,some a,some b=>some (.copy sz a b)
     | _,_,_=>none
    | _=>none
   else none
  | _,_=>none
 | .builtin .max=>
  match c.args.toList with
  | [x,y]=>match slimX P 0 x,slimX P 0 y with | some a,some b=>some (.mm true a b) | _,_=>none
  | _=>none
 | .builtin .min=>
  match c.args.toList with
  | [x,y]=>match slimX P 0 x,slimX P 0 y with | some a,some b=>some (.mm false a b) | _,_=>none
  | _=>none
 | _=>none

def isNilC:Operand->Bool
 | .const (.slice none 0 0)=>true
 | _=>false

/-- A constant without an address, that an operand is compared with. -/
def nulC (d:TypeDesc):Operand->Option Nul
 | .const (.pointer none)=>match d with | .pointer _=>some .ptr | _=>none
 | .const .nilIface=>match d with | .interface _=>some .iface | _=>none
 | .const .nilFunc=>match d with | .func _ _ _=>some .func | _=>none
 | _=>none

def slimMv (P:Program) (T:TypeId) (x:Operand):Option SO:=
 if isNilC x then
  match P.underlying T with
  | some (.slice e)=>match szOf P e with | some sz=>some (.nilSl e sz) | none=>none
  | _=>none
 else match x with
  | .const .nilFunc=>some .nilFn
  | _=>(slimX P T x).map .mv

/-- Is T an array of so many single cells? -/
def arrOf (P:Program) (T:TypeId):Option Nat:=
 match P.underlying T with
 | some (.array k e)=>match szOf P e,szOf P T with | some none,some (some k')=>if k=k' && k<=100 then some k else none | _,_=>none
 | _=>none

/-- The parts of an array. -/
def slimPartsA (P:Program) (T:TypeId):List (Nat × Operand)->Option (List (Nat × Nat × SX))
 | []=>some []
 | (i,x)::rest=>match slimX P T x,slimPartsA P T rest with | some a,some r=>some ((i,1,a)::r) | _,_=>none

def slimArr (P:Program) (k:Nat) (o:Oper):Option SO:=
 match o.op with
 | .box T x=>(slimX P T x).map (.boxA T k)
 | .alloc T=>match zeroOf P T with | some zs=>if zs.length=k then some (.allocA T zs) else none | none=>none
 | .build T parts=>
  match P.underlying T with
  | some (.array _ e)=>match zeroOf P T,slimPartsA P e parts.toList with | some zs,some ps=>if zs.length=k && (ps.all λp=>decide (p.1<k)) then some (.buildA zs ps) else none | _,_=>none
  | _=>none
 | .load _ a=>(slimX P 0 a).map (.loadA k)
 | .store T a x=>match slimX P 0 a,slimX P T x with | some a,some x=>some (.storeA k a x) | _,_=>none
 | .slice _ x lo hi none=>match slimX P 0 x,slimO P lo,slimO P hi with | some a,some lo,some hi=>some (.sliceA k a lo hi) | _,_,_=>none
 | .indexAddr _ x i=>match slimX P 0 x,slimX P 0 i with | some a,some b=>some (.idxA k a b) | _,_=>none
 | .index T x i=>match slimX P T x,slimX P 0 i with | some a,some b=>some (.idxV k a b) | _,_=>none
 | _=>none

/-- The type that an operation on arrays is of. -/
def opT (o:Oper):Option TypeId:=
 match o.op with
 | .box T _ | .alloc T | .build T _ | .load T _ | .store T _ _ | .slice T _ _ _ none | .indexAddr T _ _ | .index T _ _=>some T
 | _=>none

def slimOp0 (P:Program) (o:Oper):Option SO:=
 match o.op with
 | .move x | .assign x=>slimMv P o.type x
 | .pick c a b=>
  match slimX P 0 c,slimX P o.type a,slimX P o.type b with
  | some c,some a,some b=>some (.pick c a b)
  | _,_,_=>none
 | .box T x=>(slimX P T x).map (.box T)
 | .alloc T=>(zeroOf P T).map (.alloc T)
 | .build T parts=>
  match P.underlying T with
  | some (.struct fs)=>
   match zeroOf P T,slimParts P fs parts.toList with
   | some zs,some ps=>if (fs.toList.all λf=>(P.info? f.type).isSome && decide (f.offset+tsz P f.type<=zs.length)) then some (.build zs ps) else none
   | _,_=>none
  | _=>none
 | .buildSlice T len parts=>
  match P.underlying T with
  | some (.slice e)=>
   match szOf P e,zeroV P e,slimXs P (parts.toList.map (·.2)) (parts.toList.map λ_=>e) with
   | some sz,some _,some xs=>if sz != some 0 && len == parts.size && inRow 0 parts.toList && len*width sz<=2^24 then some (.mkSl e sz xs) else none
   | _,_,_=>none
  | _=>none
 | .load T a=>
  match szOf P T,slimX P 0 a with
  | some sz,some a=>some (.load sz a)
  | _,_=>none
 | .store T a x=>
  match szOf P T,slimX P 0 a,slimX P T x with
  | some sz,some a,some x=>some (.store sz a x)
  | _,_,_=>none
 | .binOp op T x y Ty=>
  match P.underlying T,slimX P T x,slimX P Ty y with
  | some .bool,some a,some b=>
   match op with
   | .eql=>some (.eqb false a b)
   | .neq=>some (.eqb true a b)
   | _=>none
  | some (.slice _),some a,some _=>if isNilC y then match op with | .eql=>some (.isNil false a) | .neq=>some (.isNil true a) | _=>none else none
  | some d,some a,some b=>
   match nulC d y with
   | some k=>match op with | .eql=>some (.isNul k false a) | .neq=>some (.isNul k true a) | _=>none
   | none=>some (.bin op a b)
  | _,_,_=>none
 | .unOp op T x=>(slimX P T x).map (.un op)
 | .convert src dst x=>
  match slimX P src x,P.underlying src,P.underlying dst with
  | some a,some (.int _),some (.int k)=>some (.conv k a)
  | some a,some .string,some (.slice e)=>match P.underlying e with | some (.int .u8)=>some (.s2b a) | _=>none
  | some a,some (.slice e),some .string=>match P.underlying e with | some (.int .u8)=>some (.b2s a) | _=>none
  | _,_,_=>none
 | .makeFunc (.func f) first caps=>
  if first.size == 0 then (slimXs P caps.toList []).map (.makeFn f) else
  match first.toList,caps.size == 0 with
  | [x],true=>(slimX P 0 x).map (.makeB f)
  | _,_=>none
 | .makeSlice T l c=>
  match P.underlying T with
  | some (.slice e)=>
   match szOf P e,zeroV P e,P.info? e,slimX P 0 l with
   | some sz,some z,some i,some l'=>if sameOpd l c && sz != some 0 && i.bytes != 0 then some (.make e sz z i.bytes l') else none
   | _,_,_,_=>none
  | _=>none
 | .slice T x lo hi none=>
  match P.underlying T,slimX P T x,slimO P lo,slimO P hi with
  | some (.slice e),some a,some lo,some hi=>match szOf P e with | some sz=>some (.slice (some sz) a lo hi) | none=>none
  | some .string,some a,some lo,some hi=>some (.slice none a lo hi)
  | _,_,_,_=>none
 | .fieldAddr T x f=>
  match P.underlying T,slimX P 0 x with
  | some (.struct fs),some a=>
   match fs[f]? with
   | some f=>match szOf P f.type with | some sz=>if sz != some 0 then some (.fieldAddr f.offset sz a) else none | none=>none
   | none=>none
  | _,_=>none
 | .field T x f=>
  match P.underlying T,slimX P T x with
  | some (.struct fs),some a=>
   match fs[f]? with
   | some f=>match szOf P f.type with | some sz=>some (.field f.offset sz a) | none=>none
   | none=>none
  | _,_=>none
 | .indexAddr T x i=>
  match P.underlying T with
  | some (.slice e)=>
   match szOf P e,slimX P T x,slimX P 0 i with
   | some sz,some a,some b=>some (.indexAddr sz a b)
   | _,_,_=>none
  | _=>none
 | .index T x i=>
  match P.underlying T,slimX P T x,slimX P 0 i with
  | some .string,some a,some b=>some (.index a b)
  | _,_,_=>none
 | .extract x j=>(slimX P 0 x).map (.extract · j)
 | .nilCheck x=>(slimX P 0 x).map .nilCheck
 | .call c=>slimCall P o c
 | .makeInterface T x=>
  match P.underlying T with
  | some (.interface _)=>none
  | some _=>(slimX P T x).map (.mkI T)
  | none=>none
 | _=>none

def slimOp (P:Program) (o:Oper):Option SO:=
 match (opT o).bind (arrOf P) with
 | some k=>slimArr P k o
 | none=>slimOp0 P o

end Go.Vw

namespace Go.Vw
open Go.RowKit (Below)

/-- The operation, carried out in whatever frame and world fit the state S, leaves ones that fit S'. -/
def OpOK (P:Program) (A:Nat->Prop) (w0:Base) (n:Nat) (o:Oper) (S S':St):Prop:=
 ∀ a w,RelSt A w0 n S a w->∃ nx w',(execOp a.eval o).run P w= .ok nx w'/\
  ((∃ u,nx= .value u/\RelSt A w0 n S' (a.put o.dst u) w')\/(nx= .skip/\RelSt A w0 n S' (a.put o.dst undef) w'))

section
variable {P:Program} {A:Nat->Prop} {w0:Base} {n:Nat} {o:Oper} {S:St}

theorem ev_rel {T:TypeId} {x:Operand} {sx:SX} (hx:slimX P T x=some sx) {a:Act} {w:World} {μ:Nat->Value}
 (rel:∀ t,RelS w (okOf A w μ S.h) μ S.h (S.σ t) (a.tmps.getD t undef)):RelS w (okOf A w μ S.h) μ S.h (S.ev sx) (a.eval x):=by
 cases x with
 | tmp t=>simp only [slimX,Option.some.injEq] at hx; subst hx; exact rel t
 | const v=>simp only [slimX,Option.map_eq_some_iff] at hx; obtain ⟨c,hc,rfl⟩:=hx; exact .p _ _ (cst_rel hc _ _)
 | func f=>simp only [slimX,Option.some.injEq] at hx; subst hx; exact .p _ _ (.clo _ _ _ rfl (by simp))
 | global g=>simp [slimX] at hx

theorem pure_ok (hd:∀ t,o.dst=some t->t<n) {x:SV}
 (h:∀ (a:Act) (w:World) (μ:Nat->Value),HeapOK A w w0 μ S.h->(∀ t,RelS w (okOf A w μ S.h) μ S.h (S.σ t) (a.tmps.getD t undef))->
  ∃ u,(execOp a.eval o).run P w= .ok (.value u) w/\RelS w (okOf A w μ S.h) μ S.h x u):OpOK P A w0 n o S (S.put o.dst x):=by
 intro a w hR;obtain ⟨μ,H,rel⟩:=hR.ex;obtain ⟨u,hu,hx⟩:=h a w μ H rel;exact ⟨_,w,hu,.inl ⟨u,rfl,RelSt.put' rel hR.size hR.defers hR.new H (Keeps.refl A w μ S.h) hR.below hd hx⟩⟩

theorem p_inv {w:World} {ok:Nat->Prop} {μ:Nat->Value} {h:Nat->HC} {v:V} {val:Value} (hs:RelS w ok μ h (.p v) val):RelV w ok v val:=by
 cases hs; assumption

end
end Go.Vw

namespace Go.Vw
open Go.RowKit (Below)

theorem fold_set (off:Nat):∀ (vs:List Value) (k:Nat) (cells:Array Value),off+k+vs.length<=cells.size->
 (vs.zipIdx k).foldl (λcs (p:Value × Nat)=>cs.setIfInBounds (off+p.2) p.1) cells=(cells.toList.take (off+k)++vs++cells.toList.drop (off+k+vs.length)).toArray
 | [],k,cells,h=>by simp
 | v::r,k,cells,h=>by
  simp only [List.zipIdx_cons,List.foldl_cons];rw [fold_set off r (k+1) _ (by simp at h ⊢; omega)];have h1:off+k<cells.size:=by simp at h; omega
  apply congrArg List.toArray;have hl:off+k<cells.toList.length:=by simpa using h1
  rw [Array.toList_setIfInBounds];have e1:(cells.toList.set (off+k) v).take (off+(k+1))=cells.toList.take (off+k)++[v]:=by
   rw [show off+(k+1)=off+k+1 by omega,List.take_succ_eq_append_getElem (by simpa using hl)];rw [List.take_set_of_le (by omega)];simp
  have e2:(cells.toList.set (off+k) v).drop (off+(k+1)+r.length)=cells.toList.drop (off+k+(v::r).length):=by
   rw [List.drop_set_of_lt (by omega)];congr 1;simp; omega
  rw [e1,e2];simp

theorem fill_cons (place:Nat->Option (Nat × Nat)) (cells:Array Value) (i:Nat) (v:Value) (rest:List (Nat × Value)) {off size:Nat}
 (hp:place i=some (off,size)) (hs:v.cells.size=size) (hle:off+size<=cells.size):
 Instr.fill place cells ((i,v)::rest)=Instr.fill place (cells.toList.take off++v.cells.toList++cells.toList.drop (off+size)).toArray rest:=by
 simp only [Instr.fill,hp,hs];have h1:(decide (size≠size) || decide (off+size>cells.size))=false:=by simp; omega
 rw [if_neg (by simp; omega)];congr 1;have:=fold_set off v.cells.toList 0 cells (by simp [hs]; omega);simp only [Nat.add_zero,Array.length_toList,hs] at this;rw [<- this,<-Array.foldl_toList,Array.toList_zipIdx]

theorem run_tsz {P:Program} {T:TypeId} {i:TypeInfo} (hi:P.info? T=some i) (w:World):(sizeOf T).run P w= .ok (tsz P T) w:=by
 simp [sizeOf,typeInfo,hi,tsz]

theorem run_places {P:Program} (w:World):∀ (fs:List Field),(∀ f∈fs,(P.info? f.type).isSome=true)->
 (fs.mapM (m:=Sem) λf=>Prod.mk f.offset <$> sizeOf f.type).run P w= .ok (fs.map λf=>(f.offset,tsz P f.type)) w
 | [],_=>rfl
 | f::r,h=>by
  obtain ⟨i,hi⟩:=Option.isSome_iff_exists.1 (h f (by simp));have ih:=run_places (P:=P) w r λx hx=>h x (by simp [hx]);rw [List.mapM_cons];simp [run_tsz hi w,ih]

theorem cellsOf_sz {P:Program} {T:TypeId} {sz:Option Nat} (h:szOf P T=some sz):tsz P T=width sz:=by
 obtain ⟨d,i,hd,hi,h1,h2⟩:=szOf_spec h;simp [tsz,hi,h1]

section
variable {P:Program} {A:Nat->Prop} {w0:Base} {n:Nat} {o:Oper} {S:St}

end
end Go.Vw

namespace Go.Vw
open Go.RowKit (Below)

theorem getD_lt {α:Type} (l:List α) (d:α) {j:Nat} (h:j<l.length):l.getD j d=l[j]:=by simp [List.getD,h]

section
variable {P:Program} {A:Nat->Prop} {w0:Base} {n:Nat} {o:Oper} {S:St}

theorem run_loadAt_rel {T:TypeId} {sz:Option Nat} (hsz:szOf P T=some sz) {w:World} {g off:Nat} {val:Value} (hs:Shape sz val) (hc:w.rangeAt g off val.cells.toList):
 (Instr.loadAt T (.pointer (some ⟨g,off,none⟩))).run P w= .ok val w:=by
 obtain ⟨d,i,hd,hi,h1,h2⟩:=szOf_spec hsz;cases sz with
 | none=>
  have hc0:w.cell? ⟨g,off,none⟩=some val:=by
   have hcell:val.cells.toList=[val]:=by cases val<;>simp_all [Shape,Value.oneCell',Value.cells]
   have:=hc 0 val (by rw [hcell]; rfl)
   simpa using this
  simp [Instr.loadAt,Instr.sureAddr,loadVar,run_isAgg hsz,hc0]
 | some k=>
  obtain ⟨cs,rfl,h3,h4⟩:=hs;have:=run_loadAt_mid (P:=P) w g off T cs.toList d hc hd (by rw [h2]; rfl) (by simp [hi,h1,width,h3])
  simpa using this

theorem ptr_inv {w:World} {ok:Nat->Prop} {μ:Nat->Value} {h:Nat->HC} {r g j:Nat} {val:Value} (hs:RelS w ok μ h (.ptr r g j) val) (hg:g=(h r).g):
 PtrOf (μ r) (h r).width j val:=by
 cases hs with
 | ptr_stale _ _ _ _ hlt=>omega
 | ptr _ _ _ _ _ hs=>exact hs

end
end Go.Vw

namespace Go.Vw
open Go.RowKit (Below)

theorem width_none:width none=1:=rfl

section
variable {P:Program} {A:Nat->Prop} {w0:Base} {n:Nat} {o:Oper} {S:St}

theorem BelowX.of_setRow {w0:Base} {w:World} (h:BelowX w0 w) {g:Nat} (hB:w0.B g) (cs:Array Value):BelowX w0 (w.setRow g cs):=
 ⟨h.os,h.tape,h.output,by simpa [World.setRow] using h.size,λk hk=>(setRow_other w g k cs (λe=>hk (e ▸ hB))).trans (h.block k hk)⟩

theorem size_setRow (w:World) (g:Nat) (cs:Array Value):(w.setRow g cs).heap.size=w.heap.size:=by simp [World.setRow]

/-- The row of the reference r is written over. -/
theorem RelSt.write {a:Act} {w:World} (hR:RelSt A w0 n S a w) {μ:Nat->Value} (H:HeapOK A w w0 μ S.h)
 (rel:∀ t,RelS w (okOf A w μ S.h) μ S.h (S.σ t) (a.tmps.getD t undef)) (hd:∀ t,o.dst=some t->t<n) (r b:Nat) (ob:HObj) (cs:Array Value) (x:SV)
 (hlive:(S.h r).o≠none) (hb:blk (μ r)=some b) (hw:ob.width=(S.h r).width)
 (hobj:∀ (ok:Nat->Prop),(∀ b,okOf A w μ S.h b->ok b)->(∀ b' o,okOf A w μ S.h b'->(w.setRow b cs).cell? ⟨b',o,none⟩=w.cell? ⟨b',o,none⟩)->
  RelObj (w.setRow b cs) ok w0.B (μ r) ob)
 (u:Value) (hx:∀ (w':World) (ok:Nat->Prop) (h':Nat->HC),RelS w' ok μ h' x u):
 RelSt A w0 n ((S.heap (some (r,⟨(S.h r).g,some ob⟩))).put o.dst x) (a.put o.dst u) (w.setRow b cs):=by
 obtain ⟨ob0,hob0⟩:=Option.ne_none_iff_exists'.1 hlive;have hlt:=(H.obj r ob0 hob0).lt hb;obtain ⟨H',k⟩:=H.change (w':=w.setRow b cs) r ⟨(S.h r).g,some ob⟩ (μ r) (by rw [size_setRow]; exact Nat.le_refl _)
  (λb' hb' hne=>setRow_other w b b' cs (λe=>hne hlive (by rw [hb,e])))
  (λb' _ hb'=>.inl ⟨hlive,hb'⟩) (λob' hob hok hcell=>by
   simp only [Option.some.injEq] at hob; subst hob;exact hobj _ hok hcell) (.inr ⟨rfl,by simpa [HC.width] using hw,rfl⟩)
 have hμ:upd μ r (μ r)=μ:=by funext t; simp only [upd]; split<;>simp_all
 refine RelSt.put' rel hR.size hR.defers hR.new H' k (hR.below.of_setRow hlt.1 _) hd ?_;rw [hμ]; exact hx _ _ _

theorem run_storeAt {T:TypeId} {sz:Option Nat} (hsz:szOf P T=some sz) {w:World} {g off:Nat} {val:Value} (hs:Shape sz val) {cur:Array Value} {T':TypeId}
 (hh:w.heap[g]? =some (.cells cur T' (0,0))) (hle:off+width sz<=cur.size):
 (Instr.storeAt T (.pointer (some ⟨g,off,none⟩)) val).run P w= .ok () (w.setRow g (cur.toList.take off++val.cells.toList++cur.toList.drop (off+width sz)).toArray):=by
 obtain ⟨d,i,hd,hi,h1,h2⟩:=szOf_spec hsz;have hl:=hs.list;have:=run_storeCells_at P g off T' val.cells.toList 0 cur w hh (by rw [hl]; simpa using hle) (λv hv=>hs.one v (by simpa using hv));simp only [Nat.add_zero,hl] at this;simp [Instr.storeAt,Instr.sureAddr,storeVar,run_sz hsz,hs.size,this]

theorem drop_take_drop {α:Type} (l:List α) {M N:Nat} (h:M<=N):(l.drop M).take (N-M)++l.drop N=l.drop M:=by
 have:l.drop N=(l.drop M).drop (N-M):=by rw [List.drop_drop]; congr 1; omega
 rw [this,List.take_append_drop]

theorem ownsRow_write {w:World} {B:Nat->Prop} {T:TypeId} {size k g cap:Nat} {cur:Array Value} {flat':List Value}
 (h:w.heap[g]? =some (.cells cur T (0,0))) (hB:B g) (hk:k<=cap) (hm:cap<=maxLen) (hc:cur.size=cap*size) (hl:flat'.length=k*size):
 owns (w.setRow g (flat'++cur.toList.drop (k*size)).toArray) B T size (.slice (some ⟨g,0,none⟩) k cap) k flat':=by
 have hle:k*size<=cap*size:=Nat.mul_le_mul_right _ hk;refine ⟨hl,.inr ⟨g,cap,_,rfl,hB,setRow_heap w g cur _ T _ h,hk,hm,?_,?_⟩⟩
 . simp [hl,hc]; omega
 . rw [<- hl]; exact List.take_left

theorem field_run {T:TypeId} {fs:Array Field} {f:Nat} {fl:Field} {sz:Option Nat} (hT:P.underlying T=some (.struct fs)) (hf:fs[f]? =some fl) (hsz:szOf P fl.type=some sz) (hpos:sz≠some 0)
 (w:World) (g off:Nat):(Instr.fieldAt T (.pointer (some ⟨g,off,none⟩)) f).run P w= .ok (.pointer (some ⟨g,off+fl.offset,none⟩)) w:=by
 have hw:=width_pos_list hpos;have h0:¬ width sz=0:=by omega
 simp [Instr.fieldAt,run_underlying hT,hf,Instr.sureAddr,fieldPlace,run_sz hsz,h0,Addr.add_lit]

end
end Go.Vw

namespace Go.Vw
open Go.RowKit (Below)

section
variable {P:Program} {A:Nat->Prop} {w0:Base} {n:Nat} {o:Oper} {S:St}

theorem own_inv {w:World} {ok:Nat->Prop} {μ:Nat->Value} {h:Nat->HC} {r g off len:Nat} {val:Value} (hs:RelS w ok μ h (.own r g off len) val) (hg:g=(h r).g):
 SubOf (μ r) (h r).width off len val:=by
 cases hs with
 | own_stale _ _ _ _ _ hlt _=>omega
 | own _ _ _ _ _ _ hs=>exact hs

theorem bound_run {w:World} {k:IntKind} {i:Int} {y:Nat} {code:BoundsCode} (h0:0<=i) (h:i<=y):(Instr.sliceBound (.int k i) y code).run P w= .ok i.toNat w:=by
 simp [Instr.sliceBound,asIntOf,h0,h]

theorem ok_len (hd:∀ t,o.dst=some t->t<n) {T e:TypeId} {c:Call} {x:Operand} {sx:SX} {sz:Option Nat} {xs:List V} {T1:TypeId}
 (ho:o.op= .call c) (hc:c.callee= .builtin .len) (ha:c.args.toList=[x]) (ht:c.argTypes.toList=[T]) (hT:P.underlying T=some (.slice e)) (hx:slimX P T1 x=some sx)
 (hev:S.ev sx= .p (.sl sz xs)):OpOK P A w0 n o S (S.put o.dst (.p (.i .i64 xs.length))):=
 pure_ok hd λa w μ H rel=>by
  have h3:=ev_rel hx rel;rw [hev] at h3;have h4:=p_inv h3;have ha':c.args=#[x]:=by apply Array.ext'; simpa using ha
  have ht':c.argTypes=#[T]:=by apply Array.ext'; simpa using ht
  refine ⟨_,?_,.p _ _ (.i _ _)⟩;rw [execOp,ho];generalize hv:a.eval x=val at*
  cases h4 with
  | nil=>simp [resolve,hc,ha',ht',invoke,builtin,hv,Builtin.len_,run_underlying hT,goInt]
  | void=>simp [resolve,hc,ha',ht',invoke,builtin,hv,Builtin.len_,run_underlying hT,goInt]
  | sl _ _ b off len cap vals hlen hok hcap hrel hsh hcell=>
   subst hlen;simp [resolve,hc,ha',ht',invoke,builtin,hv,Builtin.len_,run_underlying hT,goInt]

theorem ok_len_str (hd:∀ t,o.dst=some t->t<n) {T:TypeId} {c:Call} {x:Operand} {sx:SX} {s:ByteArray} {T1:TypeId}
 (ho:o.op= .call c) (hc:c.callee= .builtin .len) (ha:c.args.toList=[x]) (ht:c.argTypes.toList=[T]) (hT:P.underlying T=some .string) (hx:slimX P T1 x=some sx)
 (hev:S.ev sx= .p (.s s)):OpOK P A w0 n o S (S.put o.dst (.p (.i .i64 s.size))):=
 pure_ok hd λa w μ H rel=>by
  have h3:=ev_rel hx rel;rw [hev] at h3;have h4:=p_inv h3;have ha':c.args=#[x]:=by apply Array.ext'; simpa using ha
  have ht':c.argTypes=#[T]:=by apply Array.ext'; simpa using ht
  have hxv:a.eval x= .string s:=by generalize a.eval x=xv at h4; cases h4; rfl
  refine ⟨_,?_,.p _ _ (.i _ _)⟩;rw [execOp,ho];simp [resolve,hc,ha',ht',invoke,builtin,hxv,Builtin.len_,run_underlying hT,goInt]

theorem sub_len {base:Value} {wd off len:Nat} {val:Value} (h:SubOf base wd off len val):∃ a c,val= .slice a len c:=by
 unfold SubOf at h;split at h
 . exact ⟨none,0,by rw [h.1,h.2.2]⟩
 . obtain ⟨b,c,h,_⟩:=h; exact ⟨_,_,h⟩
 . exact h.elim

theorem ok_len_own (hd:∀ t,o.dst=some t->t<n) {T e:TypeId} {c:Call} {x:Operand} {sx:SX} {r g off len:Nat} {T1:TypeId}
 (ho:o.op= .call c) (hc:c.callee= .builtin .len) (ha:c.args.toList=[x]) (ht:c.argTypes.toList=[T]) (hT:P.underlying T=some (.slice e)) (hx:slimX P T1 x=some sx)
 (hev:S.ev sx= .own r g off len) (hg:g=(S.h r).g):OpOK P A w0 n o S (S.put o.dst (.p (.i .i64 len))):=
 pure_ok hd λa w μ H rel=>by
  have h3:=ev_rel hx rel;rw [hev] at h3;obtain ⟨ad,cc,hval⟩:=sub_len (own_inv h3 hg);have ha':c.args=#[x]:=by apply Array.ext'; simpa using ha
  have ht':c.argTypes=#[T]:=by apply Array.ext'; simpa using ht
  refine ⟨_,?_,.p _ _ (.i _ _)⟩;rw [execOp,ho];simp [resolve,hc,ha',ht',invoke,builtin,hval,Builtin.len_,run_underlying hT,goInt]
end
end Go.Vw

namespace Go.Vw
open Go.RowKit (Below)

section
variable {P:Program} {A:Nat->Prop} {w0:Base} {n:Nat} {o:Oper} {S:St}

theorem int_inv {w:World} {ok:Nat->Prop} {k:IntKind} {i:Int} {val:Value} (h:RelV w ok (.i k i) val):val= .int k i:=by cases h; rfl
theorem p_of {T:TypeId} {x:Operand} {sx:SX} (hx:slimX P T x=some sx) {v:V} (hev:S.ev sx= .p v) {a:Act} {w:World} {μ:Nat->Value}
 (rel:∀ t,RelS w (okOf A w μ S.h) μ S.h (S.σ t) (a.tmps.getD t undef)):RelV w (okOf A w μ S.h) v (a.eval x):=by
 have h1:=ev_rel hx rel;rw [hev] at h1;exact p_inv h1

def V.out:V->Value
 | .b x=>.bool x
 | .i k n=>.int k n
 | .s x=>.string x
 | _=>undef

theorem abin_out {op:BinOp} {va vb v:V} {c:Prop} (hb:abin op va vb=some (c,v)) (w:World) (ok:Nat->Prop):RelV w ok v v.out:=by
 cases va<;>cases vb<;>cases op<;>simp only [abin,Option.some.injEq,Prod.mk.injEq,reduceCtorEq] at hb<;>obtain ⟨_,rfl⟩:=hb<;>first | exact .i _ _ | exact .b _ | exact .s _

theorem bin_int {op:BinOp} {k k':IntKind} {i i':Int} {v:V} {c:Prop} (hb:abin op (.i k i) (.i k' i')=some (c,v)) (hc:c) (T:TypeId) (w:World):
 (binOp op T (.int k i) (.int k' i')).run P w= .ok v.out w:=by
 cases op
 case shl=>
  simp only [abin,Option.some.injEq,Prod.mk.injEq] at hb;obtain ⟨rfl,rfl⟩:=hb;have hn:¬ i'<0:=by omega
  simp [binOp,Op.shift,hn,V.out]
 case shr=>
  simp only [abin,Option.some.injEq,Prod.mk.injEq] at hb;obtain ⟨rfl,rfl⟩:=hb;have hn:¬ i'<0:=by omega
  simp [binOp,Op.shift,hn,V.out]
 case quo=>
  simp only [abin,Option.some.injEq,Prod.mk.injEq] at hb;obtain ⟨rfl,rfl⟩:=hb;obtain ⟨rfl,hn⟩:=hc;simp [binOp,Op.intDiv,hn,V.out]
 case rem=>
  simp only [abin,Option.some.injEq,Prod.mk.injEq] at hb;obtain ⟨rfl,rfl⟩:=hb;obtain ⟨rfl,hn⟩:=hc;simp [binOp,Op.intDiv,hn,V.out]
 all_goals
  simp only [abin,Option.some.injEq,Prod.mk.injEq] at hb;obtain ⟨rfl,rfl⟩:=hb;subst hc;simp [binOp,Op.intArith,Op.intBits,Op.intCmp,V.out]

theorem bin_str {op:BinOp} {s s':ByteArray} {v:V} {c:Prop} (hb:abin op (.s s) (.s s')=some (c,v)) (hc:c) (T:TypeId) (w:World):
 (binOp op T (.string s) (.string s')).run P w= .ok v.out w:=by
 cases op<;>simp only [abin,Option.some.injEq,Prod.mk.injEq,reduceCtorEq] at hb<;>obtain ⟨rfl,rfl⟩:=hb
 . have hn:¬ (IntKind.i64.max<((s.size+s'.size:Nat):Int)):=by omega
   simp only [binOp,Op.stringOp,V.out];rw [if_neg (by omega)];rfl
 all_goals simp [binOp,Op.stringOp,V.out]

theorem equalIn_bool {T:TypeId} (hT:P.underlying T=some .bool) (b c:Bool) (w:World) (d:Nat):(Op.equalIn (d+1) T (.bool b) (.bool c)).run P w= .ok (b == c) w:=by
 simp [Op.equalIn,run_underlying hT]

theorem ok_mm (hd:∀ t,o.dst=some t->t<n) {c:Call} {x y:Operand} {sx sy:SX} {isMax:Bool} {k k':IntKind} {i i':Int} {T1 T2:TypeId}
 (ho:o.op= .call c) (hc:c.callee= .builtin (if isMax then .max else .min)) (ha:c.args.toList=[x,y]) (hx:slimX P T1 x=some sx) (hy:slimX P T2 y=some sy)
 (hev:S.ev sx= .p (.i k i)) (hev':S.ev sy= .p (.i k' i')):
 OpOK P A w0 n o S (S.put o.dst (.p (.i k (if isMax then (if i'>i then i' else i) else (if i'<i then i' else i))))):=
 pure_ok hd λa w μ H rel=>by
  have e1:=int_inv (p_of hx hev rel);have e2:=int_inv (p_of hy hev' rel);have ha':c.args=#[x,y]:=by apply Array.ext'; simpa using ha
  refine ⟨_,?_,.p _ _ (.i _ _)⟩;rw [execOp,ho];cases isMax
  . simp [resolve,hc,ha',invoke,builtin,e1,e2,Builtin.min_,Builtin.min2]
  . simp [resolve,hc,ha',invoke,builtin,e1,e2,Builtin.max_,Builtin.max2]

end
end Go.Vw

namespace Go.Vw
open Go.RowKit (Below)

section
variable {P:Program} {A:Nat->Prop} {w0:Base} {n:Nat} {o:Oper} {S:St}

theorem range_mod {L:Array Value} {wd:Nat} (hL:L.size=wd) (hpos:0<wd):∀ c:Nat,
 (List.range (c*wd)).map (λi=>L[i%wd]!)=(List.replicate c L.toList).flatten
 | 0=>by simp
 | c+1=>by
  have ih:=range_mod hL hpos c;rw [show (c+1)*wd=c*wd+wd by rw [Nat.add_mul]; omega,List.range_add,List.map_append,ih,List.map_map,List.replicate_succ',List.flatten_append];congr 1;simp only [List.flatten_cons,List.flatten_nil,List.append_nil];apply List.ext_getElem
  . simp [hL]
  . intro i h1 h2;have hi:i<wd:=by simpa using h1
    have hm:(c*wd+i)%wd=i:=by rw [Nat.mul_comm,Nat.mul_add_mod,Nat.mod_eq_of_lt hi]
    simp [hm,hL,hi]

theorem flat_replicate (z:Value):∀ c:Nat,(List.replicate c z).flatMap (·.cells.toList)=(List.replicate c z.cells.toList).flatten
 | 0=>rfl
 | c+1=>by rw [List.replicate_succ,List.flatMap_cons,flat_replicate z c,List.replicate_succ,List.flatten_cons]

theorem RelFlat.replicate {w:World} {ok:Nat->Prop} {sz:Option Nat} {v:V} {z:Value} (h:RelV w ok v z) (hs:Shape sz z) (c:Nat):
 RelFlat w ok sz (List.replicate c v) (List.replicate c z.cells.toList).flatten:=by
 refine ⟨List.replicate c z,by simp,λj hj=>?_,λx hx=>?_,(flat_replicate z c).symm⟩
 . have hj':j<c:=by simpa using hj
   simpa [List.getD,hj'] using h
 . rw [List.eq_of_mem_replicate hx]; exact hs

theorem sameOpd_eval {x y:Operand} (h:sameOpd x y=true) {a:Act} {k:IntKind} {i:Int} (hx:a.eval x= .int k i):∃ k',a.eval y= .int k' i:=by
 unfold sameOpd at h;split at h
 . simp at h; subst h; exact ⟨k,hx⟩
 . simp at h; subst h;simp only [Act.eval,Value.int.injEq] at hx;exact ⟨_,by simp [Act.eval,hx.2]; rfl⟩
 . cases h

/-- A slice to be read: its elements as a row of cells. -/
theorem elems_rel {T:TypeId} {x:Operand} {sx:SX} (hx:slimX P T x=some sx) {sz:Option Nat} {c:Prop} {ys:List V} (hel:S.elems sz (S.ev sx)=some (c,ys)) (hc:c)
 {a:Act} {w:World} {μ:Nat->Value} (H:HeapOK A w w0 μ S.h) (rel:∀ t,RelS w (okOf A w μ S.h) μ S.h (S.σ t) (a.tmps.getD t undef)):
 ∃ f,RelFlat w (okOf A w μ S.h) sz ys f/\((a.eval x= .slice none 0 0/\ys=[])\/∃ ad cap,a.eval x= .slice (some ad) ys.length cap/\∀ j v,f[j]? =some v->w.cell? (ad.add j)=some v):=by
 have h1:=ev_rel hx rel;cases hev:S.ev sx with
 | p v=>
  rw [hev] at hel h1;cases v with
  | sl sz' xs=>
   simp only [St.elems,Option.some.injEq,Prod.mk.injEq] at hel;obtain ⟨rfl,rfl⟩:=hel;subst hc;obtain ⟨f,f1,f2⟩:=(p_inv h1).flat;refine ⟨f,f1,?_⟩;rcases f2 with ⟨a0,h2,rfl⟩ | ⟨g,off,cap,h2,h3,h4,h5⟩
   . cases a0 with
     | none=>exact .inl ⟨h2,rfl⟩
     | some a0=>
      refine .inr ⟨a0,0,h2,λj v hj=>?_⟩;have hl:=f1.length;rw [List.length_nil,Nat.zero_mul] at hl;rw [List.length_eq_zero_iff.1 hl] at hj;simp at hj
   . exact .inr ⟨⟨g,off,none⟩,cap,h2,λj v hj=>by rw [Addr.add_lit]; exact h5 j v hj⟩
  | _=>simp [St.elems] at hel
 | own r g off len=>
  rw [hev] at hel h1;simp only [St.elems] at hel;split at hel
  . rename_i T' sz' xs hobj;simp only [Option.some.injEq,Prod.mk.injEq] at hel;obtain ⟨rfl,rfl⟩:=hel;obtain ⟨hg,rfl,hle⟩:=hc;have h2:=own_inv h1 hg;obtain ⟨flat,hown,hflat⟩:=H.obj r _ hobj;have hw:(S.h r).width=width sz:=by simp [HC.width,hobj,HObj.width]
    rw [hw] at h2;have hf:=(hflat.drop off).take len;have hlen:((xs.drop off).take len).length=len:=by simp; omega
    rcases hown.2 with ⟨hnil,hn⟩ | ⟨b',cap,cur,hbase,hB,hheap,hcap,hmax,hcur,htake⟩
    . rw [hnil] at h2; simp only [SubOf] at h2;obtain ⟨hval,rfl,rfl⟩:=h2;exact ⟨_,hf,.inl ⟨hval,by simp⟩⟩
    . rw [hbase] at h2;simp only [SubOf] at h2;obtain ⟨b,c,hval,hlc,hc⟩:=h2;refine ⟨_,hf,.inr ⟨⟨b',b,none⟩,c,by rw [hlen]; exact hval,λj v hj=>?_⟩⟩;have hj0:=hj;rw [List.getElem?_take] at hj;split at hj
      . rename_i hjlt;rw [List.getElem?_drop] at hj;rcases hc with hc | ⟨hc,hc'⟩
        . have hl0:len=0:=by omega
          rw [hl0] at hjlt; omega
        . subst hc;rw [Addr.add_lit];have:=rangeAt_of_row hheap 0 flat (λi c hc=>by
           rw [<- htake,List.getElem?_take] at hc;split at hc
           . simpa using hc
           . cases hc)
          have:=this _ _ hj
          simpa using this
      . cases hj
  . cases hel
 | _=>rw [hev] at hel; simp [St.elems] at hel

/-- What an append to an owned row leaves. -/
structure AppRes (w:World) (B:Nat->Prop) (T:TypeId) (size k:Nat) (flat:List Value) (v v':Value) (w':World):Prop where
 own:owns w' B T size v' k flat
 grown:w.grownBy w' (blk v)
 at_:blk v'=blk v\/blk v'=some w.heap.size

theorem AppRes.refl {w:World} {B:Nat->Prop} {T:TypeId} {size k:Nat} {flat:List Value} {v:Value} (h:owns w B T size v k flat):AppRes w B T size k flat v v w:=
 ⟨h,⟨rfl,rfl,rfl,Nat.le_refl _,λ_ _ _=>rfl⟩,.inl rfl⟩

theorem AppRes.new {w:World} {B:Nat->Prop} {T:TypeId} {size k cap:Nat} {flat:List Value} {rest:Array Value} {v:Value} (hB:B w.heap.size) (hl:flat.length=k*size) (hk:k<=cap) (hm:cap<=maxLen)
 (hr:rest.size=(cap-k)*size):AppRes w B T size k flat v (.slice (some ⟨w.heap.size,0,none⟩) k cap) (w.drew.alloc (.cells (flat.toArray++rest) T)):=by
 refine ⟨⟨hl,.inr ⟨w.heap.size,cap,_,rfl,hB,heap_alloc_new w.drew _,hk,hm,?_,?_⟩⟩,⟨rfl,rfl,rfl,by simp,λb hb _=>heap_alloc_old w.drew _ b hb⟩,.inr rfl⟩
 . simp only [Array.size_append,List.size_toArray,hl,hr,<-Nat.add_mul];congr 1; omega
 . rw [Array.toList_append,<-hl]; exact List.take_left

theorem AppRes.room {w:World} {B:Nat->Prop} {T:TypeId} {size len m g cap:Nat} {cur:Array Value} {flat news:List Value} (hg:w.heap[g]? =some (.cells cur T (0,0))) (hB:B g)
 (hflat:cur.toList.take (len*size)=flat) (hl:flat.length=len*size) (hn:news.length=m*size) (hcap:len+m<=cap) (hm:cap<=maxLen) (hc:cur.size=cap*size):
 AppRes w B T size (len+m) (flat++news) (.slice (some ⟨g,0,none⟩) len cap) (.slice (some ⟨g,0,none⟩) (len+m) cap)
  (w.setRow g (cur.toList.take (len*size)++news++cur.toList.drop (len*size+news.length)).toArray):=by
 have hle:(len+m)*size<=cap*size:=Nat.mul_le_mul_right _ hcap;rw [Nat.add_mul] at hle;refine ⟨⟨by rw [List.length_append,hl,hn,Nat.add_mul],.inr ⟨g,cap,_,rfl,hB,setRow_heap w g cur _ T _ hg,hcap,hm,?_,?_⟩⟩,⟨rfl,rfl,rfl,by rw [size_setRow]; exact Nat.le_refl _,λk hk hne=>setRow_other w g k _ (λe=>hne (by simp [blk,e]))⟩,.inl rfl⟩
 . have hmin:min (len*size) (cap*size)=len*size:=Nat.min_eq_left (by omega);simp [hn,hc,hmin]; omega
 . rw [hflat];have:(len+m)*size=(flat++news).length:=by rw [List.length_append,hl,hn,Nat.add_mul]
   rw [this]; exact List.take_left

/-- The two ways out of an append, told to the state. -/
theorem RelSt.app {a:Act} {w w':World} (hR:RelSt A w0 n S a w) {μ:Nat->Value} (H:HeapOK A w w0 μ S.h)
 (rel:∀ t,RelS w (okOf A w μ S.h) μ S.h (S.σ t) (a.tmps.getD t undef)) (hd:∀ t,o.dst=some t->t<n) {r:Nat} {T:TypeId} {sz:Option Nat} {xs xs':List V} {flat':List Value} {v v':Value}
 (hobj:(S.h r).o=some (.arr T sz xs)) (hv:blk v=blk (μ r)) (hres:AppRes w w0.B T (width sz) xs'.length flat' v v' w') (hf:RelFlat w (okOf A w μ S.h) sz xs' flat') (pure:Bool):
 RelSt A w0 n ((S.heap (some (r,⟨(S.h r).g+1,if pure then none else some (.arr T sz xs')⟩))).put o.dst (if pure then .p (.sl sz xs') else .own r ((S.h r).g+1) 0 xs'.length)) (a.put o.dst v') w':=by
 have hlive:(S.h r).o≠none:=by rw [hobj]; simp
 have hlt:∀ b,blk (μ r)=some b->b<w.heap.size:=λb hb=>((H.obj r _ hobj).lt hb).2;have hBb:∀ b,blk (μ r)=some b->w0.B b:=λb hb=>((H.obj r _ hobj).lt hb).1;obtain ⟨H',k⟩:=H.change (w':=w') r ⟨(S.h r).g+1,if pure then none else some (.arr T sz xs')⟩ v' hres.grown.size
  (λb hb hne=>hres.grown.block b hb (λe=>hne hlive (by rw [<- hv,<-e])))
  (λb _ hb=>by
   rcases hres.at_ with h1 | h1
   . exact .inl ⟨hlive,by rw [<- hv,<-h1]; exact hb⟩
   . rw [h1] at hb; simp at hb; exact .inr (by omega))
  (λob hob hok hcell=>by
   cases pure
   . simp only [Bool.false_eq_true,if_false,Option.some.injEq] at hob; subst hob;exact ⟨flat',hres.own,hf.mono hok hcell⟩
   . simp at hob) (.inl (by simp))
 have hbelow:BelowX w0 w':=⟨hres.grown.os.trans hR.below.os,hres.grown.tape.trans hR.below.tape,hres.grown.output.trans hR.below.output,Nat.le_trans hR.below.size hres.grown.size,λb hb=>(hres.grown.block b (by
  have h1:¬ w0.w.heap.size<=b:=λe=>hb (.inl e);have:=hR.below.size;omega) (λe=>hb (hBb b (by rw [<- hv,<-e])))).trans (hR.below.block b hb)⟩
 refine RelSt.put' rel hR.size hR.defers hR.new H' k hbelow hd ?_;cases pure
 . refine .own _ _ _ _ _ (by simp) ?_;simp only [upd_same];rcases hres.own.2 with ⟨hnil,hn⟩ | ⟨b',cap,cur,hbase,hB,hheap,hcap,hmax,hcur,htake⟩
   . rw [hnil,hn]; simp [SubOf]
   . rw [hbase];exact ⟨_,_,rfl,hcap,.inr ⟨by simp,by omega⟩⟩
 . simp only [if_true];refine .p _ _ ?_;have hokb:∀ b,blk v'=some b->w0.B b->b<w'.heap.size->okOf A w' (upd μ r v') (upd S.h r ⟨(S.h r).g+1,none⟩) b:=by
    intro b hb hB hlt1;refine ⟨hR.new _ hB,hlt1,λr' hr' hb'=>?_⟩;by_cases e:r'=r
    . subst e; simp at hr'
    . rw [upd_ne _ _ e] at hr';rw [upd_ne _ _ e] at hb';obtain ⟨ob,hob⟩:=Option.ne_none_iff_exists'.1 hr';have hlt':=((H.obj r' ob hob).lt hb').2;rcases hres.at_ with h1 | h1
      . exact e (H.inj r' r b hr' hlive hb' (by rw [<- hv,<-h1]; exact hb))
      . rw [h1] at hb; simp at hb; omega
   have hfk:=hf.mono k.ok k.cell;simp only [if_true] at hfk;generalize okOf A w' (upd μ r v') (upd S.h r ⟨(S.h r).g+1,none⟩)=okk at hokb hfk ⊢;rcases hres.own.2 with ⟨hnil,hn⟩ | ⟨b',cap,cur,hbase,hB,hheap,hcap,hmax,hcur,htake⟩
   . have:xs'=[]:=List.eq_nil_of_length_eq_zero hn;rw [hnil,this]; exact .nil sz
   . have hb':=hokb b' (by rw [hbase]; rfl) hB (Array.getElem?_eq_some_iff.1 hheap).1;rw [hbase];refine hfk.slice (rangeAt_of_row hheap 0 flat' λi c hc=>?_) hb' hcap;rw [<- htake,List.getElem?_take] at hc;split at hc
     . simpa using hc
     . cases hc

/-- The first part of an owned row, as the value that an append takes. -/
theorem own_prefix {w:World} {B:Nat->Prop} {T:TypeId} {sz:Option Nat} {base val:Value} {k len:Nat} {flat:List Value} (hown:owns w B T (width sz) base k flat) (hs:SubOf base (width sz) 0 len val) (hle:len<=k):
 owns w B T (width sz) val len (flat.take (len*width sz))/\blk val=blk base:=by
 have hl:(flat.take (len*width sz)).length=len*width sz:=by
  rw [List.length_take,hown.1]; exact Nat.min_eq_left (Nat.mul_le_mul_right _ hle)
 rcases hown.2 with ⟨hnil,hn⟩ | ⟨b',cap,cur,hbase,hB,hheap,hcap,hmax,hcur,htake⟩
 . rw [hnil] at hs; simp only [SubOf] at hs;obtain ⟨hval,_,rfl⟩:=hs;exact ⟨⟨hl,.inl ⟨hval,rfl⟩⟩,by rw [hval,hnil]⟩
 . rw [hbase] at hs;simp only [SubOf] at hs;obtain ⟨b,c,hval,hlc,hc⟩:=hs;rcases hc with ⟨hc,hc',hc''⟩ | ⟨hc,hc'⟩
   . omega
   . subst hc;have:c=cap:=by omega
     subst this;simp only [Nat.zero_mul] at hval;refine ⟨⟨hl,.inr ⟨b',c,cur,hval,hB,hheap,by omega,hmax,hcur,?_⟩⟩,by rw [hval,hbase]; rfl⟩;rw [<- htake,List.take_take,Nat.min_eq_left (Nat.mul_le_mul_right _ hle)]

theorem run_app {T e:TypeId} {ti:TypeInfo} {sz:Option Nat} {z:Value} (hT:P.underlying T=some (.slice e)) (hti:P.info? e=some ti) (hz:ti.zero=some z) (hsize:ti.size=width sz) (hzs:z.cells.size=width sz) (hpos:0<width sz)
 {w:World} {B:Nat->Prop} (hB:B w.heap.size) {v:Value} {len:Nat} {flat:List Value} (hown:owns w B e (width sz) v len flat) (ty:TypeId) (y:Value) (m:Nat) (news:List Value) (hn:news.length=m*width sz)
 (hones:∀ u∈news,u.oneCell'=true)
 (hy:(y= .slice none 0 0/\m=0)\/∃ ad cap,y= .slice (some ad) m cap/\∀ j u,news[j]? =some u->w.cell? (ad.add j)=some u)
 (hb:(len+m)*ti.bytes<=2^47) (h47:len+m<=2^47):
 ∃ v' w',(Builtin.append_ #[T,T] ty #[v,y]).run P w= .ok v' w'/\AppRes w B e (width sz) (len+m) (flat++news) v v' w':=by
 rcases hy with ⟨rfl,rfl⟩ | ⟨ad,cap,rfl,hy⟩
 . have:news=[]:=List.eq_nil_of_length_eq_zero (by simpa using hn);subst this;refine ⟨v,w,run_append_owned_none w 0 T ty e ti (width sz) hT hti v len flat hown.row,?_⟩
   simpa using AppRes.refl hown
 . rcases hown.2 with ⟨rfl,rfl⟩ | ⟨g,cap',cur,rfl,hBg,hheap,hcap,hmax,hcur,htake⟩
   . have hx:flat=[]:=List.eq_nil_of_length_eq_zero (by simpa using hown.1);subst hx;by_cases hm:m=0
     . subst hm;have:news=[]:=List.eq_nil_of_length_eq_zero (by simpa using hn);subst this;refine ⟨.slice none 0 0,w,?_,by simpa using AppRes.refl hown⟩;simp [Builtin.append_,run_underlying hT,sizeOf,typeInfo,hti,Builtin.lenOf,Builtin.firstCells,loadCells,loadCellsFrom]
     . have hr:=run_append_nil (P:=P) w T ty e ti z hT hti hz ad m cap news (by rw [hsize]; exact hn) hy (by omega) (by omega) (by simp only [Nat.zero_add] at hb; omega);refine ⟨_,_,hr,?_⟩;simp only [Nat.zero_add,List.nil_append];exact AppRes.new hB hn (by simpa using grownCap_ge w m 0 e) (grownCap_le_maxLen w m 0 e (by simp only [maxLen]; omega)) (by rw [size_zeroCells,hzs])
   . by_cases hroom:len+m<=cap'
     . have hle:(len+m)*width sz<=cap'*width sz:=Nat.mul_le_mul_right _ hroom;rw [Nat.add_mul] at hle;have hr:=run_append_room (P:=P) w T ty e ti hT hti g len cap' cur hheap ad m cap news (by rw [hsize]; exact hn) hy hones hroom (by rw [hsize,hn,hcur]; omega);rw [hsize] at hr;exact ⟨_,_,hr,AppRes.room hheap hBg htake hown.1 hn hroom hmax hcur⟩
     . have holds:∀ j u,flat[j]? =some u->w.cell? ((⟨g,0,none⟩:Addr).add j)=some u:=hown.row.cells (g:=g) rfl;have hr:=run_append_grow (P:=P) w T ty e ti z hT hti hz ⟨g,0,none⟩ len cap' flat (by rw [hsize]; exact hown.1) holds ad m cap news (by rw [hsize]; exact hn) hy (by omega) (by omega) (growslice_fits (by omega) hb);refine ⟨_,_,hr,?_⟩;have hlen:(flat++news).length=(len+m)*width sz:=by rw [List.length_append,hown.1,hn,Nat.add_mul]
       have:=AppRes.new (v:=.slice (some ⟨g,0,none⟩) len cap') (T:=e) (rest:=Builtin.zeroCells z.cells (grownCap w (len+m) cap' e-(len+m))) hB hlen (grownCap_ge w (len+m) cap' e) (grownCap_le_maxLen w (len+m) cap' e (by simp only [maxLen]; omega)) (by rw [size_zeroCells,hzs])
       simpa using this

theorem ok_append (hd:∀ t,o.dst=some t->t<n) {T e:TypeId} {c:Call} {x y:Operand} {sx sy:SX} {sz:Option Nat} {zv:V} {ti:TypeInfo} {T1 T2:TypeId} {r g len:Nat} {xs ys:List V} {cy:Prop}
 (ho:o.op= .call c) (hc:c.callee= .builtin .append) (ha:c.args.toList=[x,y]) (ht:c.argTypes.toList=[T,T]) (hT:P.underlying T=some (.slice e))
 (hsz:szOf P e=some sz) (hzv:zeroV P e=some zv) (hti:P.info? e=some ti) (hpos:0<width sz) (hx:slimX P T1 x=some sx) (hy:slimX P T2 y=some sy)
 (hev:S.ev sx= .own r g 0 len) (hel:S.elems sz (S.ev sy)=some (cy,ys)) (hcy:cy) (hobj:(S.h r).o=some (.arr e sz xs)) (hg:g=(S.h r).g) (hle:len<=xs.length)
 (hb:(len+ys.length)*ti.bytes<=2^47) (h47:len+ys.length<=2^47) (pure:Bool):
 OpOK P A w0 n o S ((S.heap (some (r,⟨g+1,if pure then none else some (.arr e sz (xs.take len++ys))⟩))).put o.dst
  (if pure then .p (.sl sz (xs.take len++ys)) else .own r (g+1) 0 (len+ys.length))):=by
 intro a w hR;obtain ⟨μ,H,rel⟩:=hR.ex;obtain ⟨sz',ti',z,z',hs',hi,hz,hzc,hsh,hrel⟩:=zeroV_spec hzv;rw [hsz,Option.some.injEq] at hs'; subst hs';rw [hti,Option.some.injEq] at hi; subst hi;obtain ⟨d,ti',_,hi',hsize,_⟩:=szOf_spec hsz;rw [hti,Option.some.injEq] at hi'; subst hi';have hzs:z.cells.size=width sz:=by rw [<- hzc]; exact hsh.size
 have h1:=ev_rel hx rel;rw [hev] at h1;have h2:=own_inv h1 hg;have hw:(S.h r).width=width sz:=by simp [HC.width,hobj,HObj.width]
 rw [hw] at h2;obtain ⟨flat,hown,hflat⟩:=H.obj r _ hobj;obtain ⟨hpre,hblk⟩:=own_prefix hown h2 hle;obtain ⟨f,f1,f2⟩:=elems_rel hy hel hcy H rel;have hfl:=f1.length;have hB:w0.B w.heap.size:=.inl hR.below.size;obtain ⟨v',w',hr,hres⟩:=run_app hT hti hz hsize hzs hpos hB hpre o.type (a.eval y) ys.length f hfl f1.ones
  (by rcases f2 with ⟨h,rfl⟩ | h
      . exact .inl ⟨h,rfl⟩
      . exact .inr h) hb h47
 have ha':c.args=#[x,y]:=by apply Array.ext'; simpa using ha
 have ht':c.argTypes=#[T,T]:=by apply Array.ext'; simpa using ht
 have hrun:(execOp a.eval o).run P w= .ok (.value v') w':=by
  rw [execOp,ho];simp [resolve,hc,ha',ht',invoke,builtin,hr]
 subst hg;refine ⟨_,_,hrun,.inl ⟨_,rfl,?_⟩⟩;have hlen:(xs.take len++ys).length=len+ys.length:=by simp; omega
 have hf':RelFlat w (okOf A w μ S.h) sz (xs.take len++ys) (flat.take (len*width sz)++f):=(hflat.take len).append f1;rw [<- hlen] at hres ⊢;exact hR.app H rel hd hobj hblk hres hf' pure
end
end Go.Vw

namespace Go.Vw
open Go.RowKit (Below)

section
variable {P:Program} {A:Nat->Prop} {w0:Base} {n:Nat} {o:Oper} {S:St}

theorem St.ext_heap (S:St) (r:Nat) (c:HC) (h:S.h r=c):S.heap (some (r,c))=S:=by
 obtain ⟨σ,h'⟩:=S;simp only [St.heap,St.mk.injEq,true_and];funext t;simp only [upd];split
 . rename_i e; rw [e]; exact h.symm
 . rfl

theorem ok_copy (hd:∀ t,o.dst=some t->t<n) {T e T':TypeId} {c:Call} {x y:Operand} {sx sy:SX} {sz:Option Nat} {T1 T2:TypeId} {r g off len:Nat} {xs ys:List V} {cy:Prop}
 (ho:o.op= .call c) (hc:c.callee= .builtin .copy) (ha:c.args.toList=[x,y]) (ht:c.argTypes.toList=[T,T]) (hT:P.underlying T=some (.slice e))
 (hsz:szOf P e=some sz) (hx:slimX P T1 x=some sx) (hy:slimX P T2 y=some sy)
 (hev:S.ev sx= .own r g off len) (hel:S.elems sz (S.ev sy)=some (cy,ys)) (hcy:cy) (hobj:(S.h r).o=some (.arr T' sz xs)) (hg:g=(S.h r).g) (hle:off+len<=xs.length):
 OpOK P A w0 n o S ((S.heap (some (r,⟨g,some (.arr T' sz (xs.take off++ys.take (min ys.length len)++xs.drop (off+min ys.length len)))⟩))).put o.dst (.p (.i .i64 ((min ys.length len:Nat):Int)))):=by
 intro a w hR;obtain ⟨μ,H,rel⟩:=hR.ex;have h1:=ev_rel hx rel;rw [hev] at h1;have h2:=own_inv h1 hg;have hw:(S.h r).width=width sz:=by simp [HC.width,hobj,HObj.width]
 rw [hw] at h2;obtain ⟨flat,hown,hflat⟩:=H.obj r _ hobj;obtain ⟨f,f1,f2⟩:=elems_rel hy hel hcy H rel;have hfl:=f1.length;have ha':c.args=#[x,y]:=by apply Array.ext'; simpa using ha
 have ht':c.argTypes=#[T,T]:=by apply Array.ext'; simpa using ht
 obtain ⟨ad,cc,hval⟩:=sub_len h2;have hlenOf:(Builtin.lenOf (a.eval y)).run P w= .ok ys.length w:=by
  rcases f2 with ⟨h,rfl⟩ | ⟨ad,cap,h,_⟩<;>rw [h]<;>rfl
 have hfirst:(Builtin.firstCells (width sz) (min ys.length len) (a.eval y)).run P w= .ok (f.take (min ys.length len*width sz)).toArray w:=by
  rcases f2 with ⟨h,rfl⟩ | ⟨ad,cap,h,hcell⟩
  . rw [h,run_firstCells_none];have:f=[]:=List.eq_nil_of_length_eq_zero (by simpa using hfl);simp [this]
  . rw [h];refine run_firstCells_some w _ _ _ _ _ _ ?_ λj v hj=>?_
    . rw [List.length_take,hfl]; exact Nat.min_eq_left (Nat.mul_le_mul_right _ (Nat.min_le_left _ _))
    . rw [List.getElem?_take] at hj;split at hj
      . exact hcell j v hj
      . cases hj
 subst hg;by_cases h0:min ys.length len=0
 . have hsame:(xs.take off++ys.take (min ys.length len)++xs.drop (off+min ys.length len))=xs:=by rw [h0]; simp
   have hzero:(f.take (min ys.length len*width sz)).toArray=#[]:=by rw [h0]; simp
   have hrun:(execOp a.eval o).run P w= .ok (.value (.int .i64 ((min ys.length len:Nat):Int))) w:=by
    rw [execOp,ho];rw [hzero,h0] at hfirst;have hmin:Nat.min ys.length len=0:=h0;rw [h0];cases ad<;>simp [resolve,hc,ha',ht',invoke,builtin,hval,Builtin.copy_,run_underlying hT,hlenOf,run_sz hsz,hmin,hfirst,goInt,storeCells]
   refine ⟨_,_,hrun,.inl ⟨_,rfl,?_⟩⟩;rw [hsame,St.ext_heap S r _ (by generalize hh:S.h r=hc at *; cases hc; simp_all)];exact RelSt.put' rel hR.size hR.defers hR.new H (Keeps.refl A w μ S.h) hR.below hd (.p _ _ (.i _ _))
 . rcases hown.2 with ⟨hnil,hn⟩ | ⟨b',cap,cur,hbase,hB,hheap,hcap,hmax,hcur,htake⟩
   . rw [hnil] at h2; simp only [SubOf] at h2; omega
   . have h2':=h2;rw [hbase] at h2';simp only [SubOf] at h2';obtain ⟨b,c',hval',hlc,hcc⟩:=h2';rcases hcc with hcc | ⟨hcc,hcc'⟩
     . omega
     . subst hcc;rw [hval'] at hval;simp only [Value.slice.injEq] at hval;obtain ⟨rfl,_,rfl⟩:=hval;have hm:min ys.length len<=len:=Nat.min_le_right _ _;have hm2:min ys.length len<=ys.length:=Nat.min_le_left _ _;generalize hmm:min ys.length len=m at*
       have hfm:(f.take (m*width sz)).length=m*width sz:=by rw [List.length_take,hfl]; exact Nat.min_eq_left (Nat.mul_le_mul_right _ hm2)
       have hom:(off+m)*width sz<=xs.length*width sz:=Nat.mul_le_mul_right _ (by omega);have hxc:xs.length*width sz<=cap*width sz:=Nat.mul_le_mul_right _ hcap;have hadd:(off+m)*width sz=off*width sz+m*width sz:=Nat.add_mul _ _ _;have hst:=run_storeCells_at P b' (off*width sz) T' (f.take (m*width sz)) 0 cur w hheap (by rw [hfm]; omega) (λu hu=>f1.ones u (List.mem_of_mem_take hu));simp only [Nat.add_zero,hfm] at hst;have hrun:(execOp a.eval o).run P w= .ok (.value (.int .i64 (m:Int))) (w.setRow b' (cur.toList.take (off*width sz)++f.take (m*width sz)++cur.toList.drop (off*width sz+m*width sz)).toArray):=by
        rw [execOp,ho];have hmin:Nat.min ys.length len=m:=hmm;simp [resolve,hc,ha',ht',invoke,builtin,hval',Builtin.copy_,run_underlying hT,hlenOf,run_sz hsz,goInt,hmin,hfirst,hst]
       refine ⟨_,_,hrun,.inl ⟨_,rfl,?_⟩⟩;refine hR.write H rel hd r b' _ _ _ (by rw [hobj]; simp) (by rw [hbase]; rfl) (by simp [HObj.width,hw]) (λok hok hcell=>?_) _ (λw' ok h'=>.p _ _ (.i _ _));have t:=(((hflat.mono hok hcell).take off).append ((f1.mono hok hcell).take m)).append ((hflat.mono hok hcell).drop (off+m));refine ⟨_,?_,t⟩;have hlt:=t.length;have hlen:(xs.take off++ys.take m++xs.drop (off+m)).length=xs.length:=by simp; omega
       rw [hlen] at hlt ⊢;rw [hbase];have:=ownsRow_write (k:=xs.length) hheap hB hcap hmax hcur hlt;have hcells:(flat.take (off*width sz)++f.take (m*width sz)++flat.drop ((off+m)*width sz))++cur.toList.drop (xs.length*width sz)=
        cur.toList.take (off*width sz)++f.take (m*width sz)++cur.toList.drop (off*width sz+m*width sz):=by
        rw [<- htake,List.take_take,List.drop_take,hadd];rw [Nat.min_eq_left (by omega)];simp only [List.append_assoc];rw [drop_take_drop _ (by omega)]
       rw [hcells] at this;exact this

theorem zeroCells_eq {z:Array Value} {wd:Nat} (hz:z.size=wd) (hpos:0<wd) (c:Nat):(Builtin.zeroCells z c).toList=(List.replicate c z.toList).flatten:=by
 rw [<- range_mod hz hpos c];simp [Builtin.zeroCells,hz]

/-- append(x, make(.., k)...): the zeros are not made apart. -/
theorem ok_appendZ (hd:∀ t,o.dst=some t->t<n) {T Tn e:TypeId} {c:Call} {x y:Operand} {sx sy:SX} {sz:Option Nat} {zv:V} {ti:TypeInfo} {T1 T2:TypeId} {r g len:Nat} {xs:List V} {kn kq:IntKind} {i:Int}
 (ho:o.op= .call c) (hc:c.callee= .builtin .append) (ha:c.args.toList=[x,y]) (ht:c.argTypes.toList=[T,Tn]) (hT:P.underlying T=some (.slice e)) (hTn:P.underlying Tn=some (.int kn))
 (hsz:szOf P e=some sz) (hzv:zeroV P e=some zv) (hti:P.info? e=some ti) (hpos:0<width sz) (hx:slimX P T1 x=some sx) (hy:slimX P T2 y=some sy)
 (hev:S.ev sx= .own r g 0 len) (hev':S.ev sy= .p (.i kq i)) (h0:0<=i) (hobj:(S.h r).o=some (.arr e sz xs)) (hg:g=(S.h r).g) (hle:len<=xs.length)
 (hb:(len+i.toNat)*ti.bytes<=2^47) (h47:len+i.toNat<=2^47) (pure:Bool):
 OpOK P A w0 n o S ((S.heap (some (r,⟨g+1,if pure then none else some (.arr e sz (xs.take len++List.replicate i.toNat zv))⟩))).put o.dst
  (if pure then .p (.sl sz (xs.take len++List.replicate i.toNat zv)) else .own r (g+1) 0 (len+i.toNat))):=by
 intro a w hR;obtain ⟨μ,H,rel⟩:=hR.ex;obtain ⟨sz',ti',z,z',hs',hi,hz,hzc,hsh,hrel⟩:=zeroV_spec hzv;rw [hsz,Option.some.injEq] at hs'; subst hs';rw [hti,Option.some.injEq] at hi; subst hi;obtain ⟨d,ti',_,hi',hsize,_⟩:=szOf_spec hsz;rw [hti,Option.some.injEq] at hi'; subst hi';have hzs:z.cells.size=width sz:=by rw [<- hzc]; exact hsh.size
 have h1:=ev_rel hx rel;rw [hev] at h1;have h2:=own_inv h1 hg;have hw:(S.h r).width=width sz:=by simp [HC.width,hobj,HObj.width]
 rw [hw] at h2;obtain ⟨flat,hown,hflat⟩:=H.obj r _ hobj;obtain ⟨hpre,hblk⟩:=own_prefix hown h2 hle;have e2:=int_inv (p_of hy hev' rel);have hB:w0.B w.heap.size:=.inl hR.below.size;obtain ⟨m,rfl⟩:=Int.eq_ofNat_of_zero_le h0;simp only [Int.toNat_natCast] at*
 have ha':c.args=#[x,y]:=by apply Array.ext'; simpa using ha
 have ht':c.argTypes=#[T,Tn]:=by apply Array.ext'; simpa using ht
 generalize hnews:(List.replicate m z'.cells.toList).flatten=news;have hzero:(Builtin.zeroCells z.cells m).toList=news:=by rw [zeroCells_eq hzs hpos,<-hzc,hnews]
 have hnl:news.length=m*width sz:=by rw [<- hzero]; simp [Builtin.zeroCells,hzs]
 have fz:RelFlat w (okOf A w μ S.h) sz (List.replicate m zv) news:=by rw [<- hnews]; exact RelFlat.replicate (hrel _ _) hsh m
 have hbm:m*ti.bytes<=2^47:=by rw [Nat.add_mul] at hb; omega
 have hbi:¬ (281474976710656<(m:Int)*(ti.bytes:Int)):=by rw [<- Int.natCast_mul]; omega
 have hwrap:IntKind.i64.wrap (m:Int)=m:=by rw [IntKind.wrap_i64]; omega
 have hnn:¬ ((m:Int)<0):=by omega
 have key:∃ v' w',(Builtin.append_ #[T,Tn] o.type #[a.eval x,.int kq m]).run P w= .ok v' w'/\AppRes w w0.B e (width sz) (len+m) (flat.take (len*width sz)++news) (a.eval x) v' w':=by
  by_cases hm:m=0
  . subst hm;have hn0:news=[]:=List.eq_nil_of_length_eq_zero (by simpa using hnl);subst hn0;refine ⟨a.eval x,w,?_,by simpa using AppRes.refl hpre⟩;rcases hpre.2 with ⟨hv,hn⟩ | ⟨g',cap',cur,hv,hBg,hheap,hcap,hmax,hcur,htake⟩
    . rw [hv];have hw0:IntKind.i64.wrap 0=0:=by rw [IntKind.wrap_i64]; omega
      simp [Builtin.append_,run_underlying hT,run_underlying hTn,sizeOf,typeInfo,hti,asInt,asIntOf,hw0,hn]
    . rw [hv];have hw0:IntKind.i64.wrap 0=0:=by rw [IntKind.wrap_i64]; omega
      simp [Builtin.append_,run_underlying hT,run_underlying hTn,sizeOf,typeInfo,hti,asInt,asIntOf,hw0,hcap,storeCells]
  . rcases hpre.2 with ⟨hv,hn⟩ | ⟨g',cap',cur,hv,hBg,hheap,hcap,hmax,hcur,htake⟩
    . have hr:=Go.Lib.run_append_grow_zeros (P:=P) w T Tn o.type e ti z kq kn hT hTn hti hz none 0 0 [] (by simp [Builtin.firstCells]) m (by omega) (by omega) (by omega) (by omega) (by omega) (by rw [Nat.zero_add,nextslicecap_zero (by omega)]; omega);subst hn;rw [hv];simp only [Nat.zero_add] at hr;refine ⟨_,_,hr,?_⟩;simp only [Nat.zero_mul,List.take_zero,List.nil_append,Nat.zero_add];have:=AppRes.new (v:=.slice none 0 0) (T:=e) (rest:=Builtin.zeroCells z.cells (grownCap w m 0 e-m)) hB hnl (grownCap_ge w m 0 e) (grownCap_le_maxLen w m 0 e (by simp only [maxLen]; omega)) (by rw [size_zeroCells,hzs]);rw [<- hzero] at this ⊢
      simpa using this
    . by_cases hroom:len+m<=cap'
      . have hle':(len+m)*width sz<=cap'*width sz:=Nat.mul_le_mul_right _ hroom;rw [Nat.add_mul] at hle';have hst:=run_storeCells_at P g' (len*width sz) e news 0 cur w hheap (by rw [hnl,hcur]; omega) (λu hu=>fz.ones u hu);simp only [Nat.add_zero] at hst;have hms:m*ti.size≠0:=by rw [hsize]; exact Nat.mul_ne_zero hm (by omega)
        have hms':¬ (m*width sz=0):=by rw [<- hsize]; exact hms
        rw [hv];refine ⟨_,_,?_,AppRes.room hheap hBg htake hpre.1 hnl hroom hmax hcur⟩;simp [Builtin.append_,run_underlying hT,run_underlying hTn,sizeOf,typeInfo,hti,asInt,asIntOf,hwrap,hnn,hbi,hroom,hsize,hms',zeroValue,hz,hzero,Addr.add_lit,hst]
      . have hfirst:(Builtin.firstCells ti.size len (.slice (some ⟨g',0,none⟩) len cap')).run P w.drew= .ok (flat.take (len*width sz)).toArray w.drew:=by
         refine run_firstCells_some _ _ _ _ _ _ _ (by rw [hsize]; exact hpre.1) λj u hj=>?_;have:owns w w0.B e (width sz) (.slice (some ⟨g',0,none⟩) len cap') len (flat.take (len*width sz)):=by rw [<- hv]; exact hpre
         exact this.row.cells (g:=g') rfl j u hj
        have hr:=Go.Lib.run_append_grow_zeros (P:=P) w T Tn o.type e ti z kq kn hT hTn hti hz (some ⟨g',0,none⟩) len cap' _ hfirst m (by omega) (by omega) (by omega) (by omega) (by omega) (growslice_fits (by omega) hb);rw [hv];refine ⟨_,_,hr,?_⟩;have hlen:(flat.take (len*width sz)++news).length=(len+m)*width sz:=by rw [List.length_append,hpre.1,hnl,Nat.add_mul]
        have:=AppRes.new (v:=.slice (some ⟨g',0,none⟩) len cap') (T:=e) (rest:=Builtin.zeroCells z.cells (grownCap w (len+m) cap' e-(len+m))) hB hlen (grownCap_ge w (len+m) cap' e) (grownCap_le_maxLen w (len+m) cap' e (by simp only [maxLen]; omega)) (by rw [size_zeroCells,hzs]);have harr:(flat.take (len*width sz)++news).toArray=(flat.take (len*width sz)).toArray++Builtin.zeroCells z.cells m:=by
         apply Array.ext'; simp [hzero]
        rw [harr] at this;exact this
 obtain ⟨v',w',hr,hres⟩:=key;have hrun:(execOp a.eval o).run P w= .ok (.value v') w':=by
  rw [execOp,ho];simp [resolve,hc,ha',ht',invoke,builtin,e2,hr]
 subst hg;refine ⟨_,_,hrun,.inl ⟨_,rfl,?_⟩⟩;have hlen:(xs.take len++List.replicate m zv).length=len+m:=by simp; omega
 have hf':RelFlat w (okOf A w μ S.h) sz (xs.take len++List.replicate m zv) (flat.take (len*width sz)++news):=(hflat.take len).append fz;rw [<- hlen] at hres ⊢;exact hR.app H rel hd hobj hblk hres hf' pure
end
end Go.Vw

namespace Go.Vw
open Go.RowKit (Below)

section
variable {P:Program} {A:Nat->Prop} {w0:Base} {n:Nat} {o:Oper} {S:St}

theorem freeze_heap_ne (w:World) (a:Addr) (k b:Nat) (h:b≠a.block):(w.freeze a k).heap[b]? =w.heap[b]? :=by
 unfold World.freeze;split
 . rfl
 . simp [Array.getElem?_modify,Ne.symm h]

theorem freeze_size (w:World) (a:Addr) (k:Nat):(w.freeze a k).heap.size=w.heap.size:=by
 unfold World.freeze;split
 . rfl
 . simp

end
end Go.Vw
namespace Go.Vw
open Go.RowKit (Below)

section
variable {w:World} {ok:Nat->Prop} {μ:Nat->Value} {hp:Nat->HC}

end

section
variable {P:Program} {A:Nat->Prop} {w0:Base} {n:Nat} {o:Oper} {S:St}

/-- What an answer of 'aop' promises. -/
def Sound (P:Program) (A:Nat->Prop) (w0:Base) (n:Nat) (o:Oper) (S:St):AR->Prop
 | .v c x δ=>c->OpOK P A w0 n o S ((S.heap δ).put o.dst x)
 | _=>True

theorem pos_of {sz:Option Nat} (h:(sz != some 0)=true):0<width sz:=width_pos_list (by simpa using h)

theorem slimXs_length:∀ {xs:List Operand} {ts:List TypeId} {sx:List SX},slimXs P xs ts=some sx->sx.length=xs.length
 | [],_,_,h=>by simp only [slimXs,Option.some.injEq] at h; subst h; rfl
 | x::xs,ts,_,h=>by
  simp only [slimXs] at h;split at h
  . rename_i a r hx hr;simp only [Option.some.injEq] at h; subst h;simp [slimXs_length hr]
  . cases h

def SO.isArr:SO->Bool
 | .buildA _ _ | .allocA _ _ | .boxA _ _ _ | .idxA _ _ _ | .sliceA _ _ _ _ | .loadA _ _ | .storeA _ _ _ | .idxV _ _ _=>true
 | _=>false

theorem slimArr_arr {k:Nat} {so:SO} (h:slimArr P k o=some so):so.isArr=true:=by
 revert h;unfold slimArr
 (repeat' split)<;>simp<;>(try intros)<;>(try subst_vars)<;>rfl

theorem slimOp_or {so:SO} (h:slimOp P o=some so):slimOp0 P o=some so\/∃ k,(opT o).bind (arrOf P)=some k/\slimArr P k o=some so:=by
 unfold slimOp at h;split at h
 . rename_i k hk; exact .inr ⟨k,hk,h⟩
 . exact .inl h

end
end Go.Vw
namespace Go.Vw
open Go.RowKit (Below)

section
variable {P:Program} {A:Nat->Prop} {w0:Base} {n:Nat} {o:Oper} {S:St}

theorem sound_call {c:Call} {so:SO} (ho:o.op= .call c) (hs:slimCall P o c=some so) (hd:∀ t,o.dst=some t->t<n) (pd:List Nat) (hcall:∀ f args,so≠.call f args):Sound P A w0 n o S (aop pd S o.dst so):=by
 unfold slimCall at hs;split at hs
 . split at hs
   . simp only [Option.some.injEq] at hs; exact absurd hs.symm (hcall _ _)
   . cases hs
 . rename_i hc;split at hs
   . rename_i x T ha ht;split at hs
     . rename_i e hT;simp only [Option.map_eq_some_iff] at hs;obtain ⟨sx,hx,rfl⟩:=hs;simp only [aop];split
       . rename_i sz xs hev; intro _; exact ok_len hd ho hc ha ht hT hx hev
       . intro h; cases h
       . rename_i r g off len hev; rintro ⟨_,hg⟩; exact ok_len_own hd ho hc ha ht hT hx hev hg
       . trivial
     . rename_i hT;simp only [Option.map_eq_some_iff] at hs;obtain ⟨sx,hx,rfl⟩:=hs;simp only [aop];split
       . intro h; cases h
       . rename_i s hev; intro _; exact ok_len_str hd ho hc ha ht hT hx hev
       . rintro ⟨h,_⟩; cases h
       . trivial
     . cases hs
   . cases hs
 . rename_i hc;split at hs
   . rename_i x y T T' ha ht;split at hs
     . rename_i e _ hT hT';split at hs
       . rename_i sz zv ti sx sy hsz hzv hti hx hy;split at hs
         . rename_i hcond;simp only [Option.some.injEq] at hs; subst hs;simp only [Bool.and_eq_true,beq_iff_eq] at hcond;obtain ⟨rfl,hpos⟩:=hcond;simp only [aop];split
           . rename_i r g off len cy ys d hev hel hdst;split
             . rename_i T' sz' xs hobj;split
               . rintro ⟨hcy,hg,rfl,rfl,rfl,hle,hb,h47⟩;exact ok_append (T:=T) hd ho hc ha ht hT hsz hzv hti (pos_of hpos) hx hy hev hel hcy hobj hg hle hb h47 true
               . rintro ⟨hcy,hg,rfl,rfl,rfl,hle,hb,h47⟩;exact ok_append (T:=T) hd ho hc ha ht hT hsz hzv hti (pos_of hpos) hx hy hev hel hcy hobj hg hle hb h47 false
             . trivial
           . trivial
         . cases hs
       . cases hs
     . rename_i e kn hT hT';split at hs
       . rename_i sz zv ti sx sy hsz hzv hti hx hy;split at hs
         . rename_i hpos;simp only [Option.some.injEq] at hs; subst hs;simp only [aop];split
           . rename_i r g off len kq m d hev hel hdst;split
             . rename_i T' sz' xs hobj;split
               . rintro ⟨h0,hg,rfl,rfl,rfl,hle,hb,h47⟩;exact ok_appendZ (T:=T) hd ho hc ha ht hT hT' hsz hzv hti (pos_of hpos) hx hy hev hel h0 hobj hg hle hb h47 true
               . rintro ⟨h0,hg,rfl,rfl,rfl,hle,hb,h47⟩;exact ok_appendZ (T:=T) hd ho hc ha ht hT hT' hsz hzv hti (pos_of hpos) hx hy hev hel h0 hobj hg hle hb h47 false
             . trivial
           . trivial
         . cases hs
       . cases hs
     . cases hs
   . cases hs
 . rename_i hc;split at hs
   . rename_i x y T T' ha ht;split at hs
     . rename_i hTT;simp only [beq_iff_eq] at hTT; subst hTT;split at hs
       . rename_i e hT;split at hs
         . rename_i sz sx sy hsz hx hy;simp only [Option.some.injEq] at hs; subst hs;simp only [aop];split
           . rename_i r g off len cy ys hev hel;split
             . rename_i T' sz' xs hobj;rintro ⟨hcy,hg,rfl,hle⟩;exact ok_copy (T:=T) hd ho hc ha ht hT hsz hx hy hev hel hcy hobj hg hle
             . trivial
           . trivial
         . cases hs
       . cases hs
     . cases hs
   . cases hs
 . rename_i hc;split at hs
   . rename_i x y ha;split at hs
     . rename_i sx sy hx hy;simp only [Option.some.injEq] at hs; subst hs;simp only [aop];split
       . rename_i k i k' i' hev hev'; intro _; exact ok_mm (isMax:=true) hd ho hc ha hx hy hev hev'
       . trivial
     . cases hs
   . cases hs
 . rename_i hc;split at hs
   . rename_i x y ha;split at hs
     . rename_i sx sy hx hy;simp only [Option.some.injEq] at hs; subst hs;simp only [aop];split
       . rename_i k i k' i' hev hev'; intro _; exact ok_mm (isMax:=false) hd ho hc ha hx hy hev hev'
       . trivial
     . cases hs
   . cases hs
 . cases hs

theorem isNilC_spec {x:Operand} (h:isNilC x=true):x= .const (.slice none 0 0):=by
 unfold isNilC at h;split at h
 . rfl
 . cases h

theorem run_equal_nil {T e:TypeId} (hT:P.underlying T=some (.slice e)) (d:Nat) (a:Option Addr) (m c:Nat) (w:World):
 (Op.equalIn (d+1) T (.slice a m c) (.slice none 0 0)).run P w= .ok a.isNone w:=by
 cases a<;>simp only [Op.equalIn,Sem.run_bind,run_underlying hT,Result.andThen_ok,Sem.run_pure]<;>rfl

theorem run_isNil {T e:TypeId} (hT:P.underlying T=some (.slice e)) (x y:Operand) (val:Value) (a:Option Addr) (m c:Nat) (hv:val= .slice a m c) (w:World) {op:BinOp} (hop:op= .eql\/op= .neq):
 (eqGuard op T x y val (.slice none 0 0)).run P w= .ok () w/\(binOp op T val (.slice none 0 0)).run P w= .ok (.bool (if op= .eql then a.isNone else !a.isNone)) w:=by
 subst hv;have:=run_equal_nil hT 9999 a m c w;rcases hop with rfl | rfl
 . refine ⟨by simp [eqGuard],?_⟩;show (do pure (.bool (<- Op.equalIn (9999+1) T (.slice a m c) (.slice none 0 0))):Sem Value).run P w=_;rw [Sem.run_bind,this];rfl
 . refine ⟨by simp [eqGuard],?_⟩;show (do pure (.bool (!(<- Op.equalIn (9999+1) T (.slice a m c) (.slice none 0 0)))):Sem Value).run P w=_;rw [Sem.run_bind,this];rfl

theorem nulC_spec {d:TypeDesc} {y:Operand} {k:Nul} (h:nulC d y=some k):
 (k= .ptr/\y= .const (.pointer none)/\∃ e,d= .pointer e)\/(k= .iface/\y= .const .nilIface/\∃ ms,d= .interface ms)\/(k= .func/\y= .const .nilFunc/\∃ a b c,d= .func a b c):=by
 unfold nulC at h;split at h
 . split at h
   . cases h; exact .inl ⟨rfl,rfl,_,rfl⟩
   . cases h
 . split at h
   . cases h; exact .inr (.inl ⟨rfl,rfl,_,rfl⟩)
   . cases h
 . split at h
   . cases h; exact .inr (.inr ⟨rfl,rfl,_,_,_,rfl⟩)
   . cases h
 . cases h

/-- What a value is that is compared with one without an address: itself such a one (true), or not (false). -/
inductive NulVal:Nul->Value->Bool->Prop
 | ptr:NulVal .ptr (.pointer none) true
 | ptr' (a:Addr):NulVal .ptr (.pointer (some a)) false
 | iface:NulVal .iface .nilIface true
 | iface' (T:TypeId) (v:Value):NulVal .iface (.iface T v) false
 | func:NulVal .func .nilFunc true
 | func' (f:Fn) (a b:Array Value):NulVal .func (.func f a b) false

def Nul.fits:Nul->TypeDesc->Prop
 | .ptr,d=>∃ e,d= .pointer e
 | .iface,d=>∃ ms,d= .interface ms
 | .func,d=>∃ a b c,d= .func a b c
 | .map,_=>False

theorem run_equal_nul {d:TypeDesc} {T:TypeId} (hT:P.underlying T=some d) {k:Nul} (hd:k.fits d) {val:Value} {b:Bool} (hv:NulVal k val b) (m:Nat) (w:World):
 (Op.equalIn (m+1) T val k.val).run P w= .ok b w:=by
 cases hv<;>simp only [Nul.fits] at hd<;>first | (obtain ⟨e,rfl⟩:=hd) | (obtain ⟨e1,e2,e3,rfl⟩:=hd)
 all_goals
  simp only [Op.equalIn,Nul.val,Sem.run_bind,run_underlying hT,Result.andThen_ok,Sem.run_pure]
  try rfl

theorem run_isNul {d:TypeDesc} {T:TypeId} (hT:P.underlying T=some d) {x y:Operand} {k:Nul} (hk:nulC d y=some k) {val:Value} {b:Bool} (hv:NulVal k val b) (a:Act) (w:World) {op:BinOp} (hop:op= .eql\/op= .neq):
 (eqGuard op T x y val (a.eval y)).run P w= .ok () w/\(binOp op T val (a.eval y)).run P w= .ok (.bool (if op= .eql then b else !b)) w:=by
 have hfit:k.fits d/\y= .const k.val:=by
  rcases nulC_spec hk with ⟨rfl,rfl,e,rfl⟩ | ⟨rfl,rfl,ms,rfl⟩ | ⟨rfl,rfl,f1,f2,f3,rfl⟩
  . exact ⟨⟨_,rfl⟩,rfl⟩
  . exact ⟨⟨_,rfl⟩,rfl⟩
  . exact ⟨⟨_,_,_,rfl⟩,rfl⟩
 obtain ⟨hf,rfl⟩:=hfit;have he:=run_equal_nul hT hf hv 9999 w;have hev:a.eval (.const k.val)=k.val:=rfl;rw [hev];constructor
 . cases hv<;>rcases hop with rfl | rfl<;>simp [eqGuard,Nul.val]
 . have h2:(Op.equal T val k.val).run P w= .ok b w:=he;rcases hop with rfl | rfl
   . have hb:binOp .eql T val k.val=(do pure (.bool (<- Op.equal T val k.val))):=by cases hv<;>rfl
     rw [hb,Sem.run_bind,h2]; rfl
   . have hb:binOp .neq T val k.val=(do pure (.bool (!(<- Op.equal T val k.val)))):=by cases hv<;>rfl
     rw [hb,Sem.run_bind,h2]; rfl

theorem arrOf_spec {T:TypeId} {k:Nat} (h:arrOf P T=some k):∃ e,P.underlying T=some (.array k e)/\szOf P e=some none/\szOf P T=some (some k)/\k<=100:=by
 unfold arrOf at h;split at h
 . rename_i k0 e hT;split at h
   . rename_i k' he hk';split at h
     . rename_i hc;simp only [Option.some.injEq] at h; subst h;simp only [Bool.and_eq_true,decide_eq_true_eq] at hc;obtain ⟨rfl,hc⟩:=hc;exact ⟨e,hT,he,hk',hc⟩
     . cases h
   . cases h
 . cases h

theorem hundred_max:100<=maxLen:=by decide

end
end Go.Vw

namespace Go.Vw
open Go.RowKit (Below)

theorem RelObj.lower {w:World} {ok:Nat->Prop} {B B':Nat->Prop} {base:Value} {ob:HObj} (h:RelObj w ok B base ob) (hB:∀ b,blk base=some b->B b->B' b):RelObj w ok B' base ob:=by
 cases ob with
 | box T cs=>obtain ⟨g,cells,h1,h2,h3⟩:=h; exact ⟨g,cells,h1,hB g (by rw [h1]; rfl) h2,h3⟩
 | arr T sz xs=>
  obtain ⟨flat,h1,h2⟩:=h;refine ⟨flat,⟨h1.1,?_⟩,h2⟩;rcases h1.2 with h3 | ⟨g,cap,cur,e1,e2,e3⟩
  . exact .inl h3
  . exact .inr ⟨g,cap,cur,e1,hB g (by rw [e1]; rfl) e2,e3⟩
 | _=>exact h.elim

section
variable {P:Program} {A:Nat->Prop} {w0:Base} {n:Nat} {o:Oper} {S:St}

theorem retSV_rel {w':World} {ok:Nat->Prop} {μ':Nat->Value} {h0 h':Nat->HC} {d:Nat}:∀ {rvs:List RV} {vs:List Value},vs.length=rvs.length->
 (∀ j rv,rvs[j]? =some rv->RelS w' ok μ' h' (svOf h0 d j rv) (vs.getD j undef))->RelS w' ok μ' h' (retSV h0 d rvs) (packed vs)
 | [rv],[v],_,h=>by simpa [packed,retSV] using h 0 rv rfl
 | [],[],_,_=>.tup _ _ rfl (by simp [svsOf])
 | r1::r2::rest,v1::v2::vr,hl,h=>by
  simp only [retSV,packed];refine .tup _ _ (by simp only [svsOf_length]; simpa using hl) λj hj=>?_;have hj':=hj;rw [svsOf_length] at hj';have:=h j ((r1::r2::rest)[j]) (by simp [hj']);rw [svsOf_get _ _ _ _ hj hj']
  simpa [Array.getD_eq_getD_getElem?,List.getD] using this
 | [_],[],hl,_=>by simp at hl
 | [_],_::_::_,hl,_=>by simp at hl
 | [],_::_,hl,_=>by simp at hl
 | _::_::_,[],hl,_=>by simp at hl
 | _::_::_,[_],hl,_=>by simp at hl

/-- What a call hands back goes into the state. -/
theorem RelSt.ret {a:Act} {w w':World} (hR:RelSt A w0 n S a w) {μ:Nat->Value} (H:HeapOK A w w0 μ S.h)
 (rel:∀ t,RelS w (okOf A w μ S.h) μ S.h (S.σ t) (a.tmps.getD t undef)) {d:Option Nat} (hd:∀ t,d=some t->t<n) {rvs:List RV} {vs:List Value}
 (hb:Below w.heap.size w w') (hret:RetOK w w' (okOf A w μ S.h) rvs vs):RelSt A w0 n (S.ret d rvs) (a.put d (packed vs)) w':=by
 have hbelow:BelowX w0 w':=hR.below.grow hb;have hnew:∀ b,w.heap.size<=b->w0.B b:=λb hb=>.inl (Nat.le_trans hR.below.size hb);cases d with
 | none=>
  obtain ⟨H',k⟩:=H.grow hb;have:=RelSt.put' (d:=none) (x:=.any) (val:=packed vs) rel hR.size hR.defers hR.new H' k hbelow (by simp) (.any _)
  simpa [St.ret,St.put] using this
 | some d=>
  let μ':Nat->Value:=λk=>match ownIdx d rvs k with | some j=>vs.getD j undef | none=>μ k
  have hidx:∀ k j,ownIdx d rvs k=some j->k=d+1000*j/\∃ T sz xs,rvs[j]? =some (.own T sz xs):=by
   intro k j hk;by_cases hc:d<=k/\(k-d)%1000=0/\ownAt rvs ((k-d) / 1000)=true
   . rw [ownIdx,if_pos hc,Option.some.injEq] at hk;obtain ⟨c1,c2,c3⟩:=hc;refine ⟨by omega,?_⟩;rw [<- hk];exact ownAt_true c3
   . rw [ownIdx,if_neg hc] at hk; cases hk
  have hidx':∀ j T sz xs,rvs[j]? =some (.own T sz xs)->ownIdx d rvs (d+1000*j)=some j:=by
   intro j T sz xs hj;have e:(d+1000*j-d) / 1000=j:=by omega
   unfold ownIdx;rw [if_pos ⟨by omega,by omega,by rw [e,ownAt,hj]; rfl⟩,e]
  have hsame:∀ k,ownIdx d rvs k=none->retH S.h d rvs k=S.h k:=by intro k hk; simp [retH,hk]
  have hchg:∀ k j T sz xs,ownIdx d rvs k=some j->rvs[j]? =some (.own T sz xs)->retH S.h d rvs k=⟨(S.h k).g+1,some (.arr T sz xs)⟩:=by
   intro k j T sz xs hk hj; simp [retH,hk,hj]
  have hown:∀ j T sz xs,rvs[j]? =some (.own T sz xs)->RelObj w' (okR (okOf A w μ S.h) w w' rvs vs) (w.heap.size<=·) (vs.getD j undef) (.arr T sz xs):=λj T sz xs hj=>hret.rel j _ hj;have hblt:∀ k ob b,(S.h k).o=some ob->blk (μ k)=some b->b<w.heap.size:=λk ob b hob hb'=>((H.obj k ob hob).lt hb').2;have hokR:∀ b,okR (okOf A w μ S.h) w w' rvs vs b->okOf A w' μ' (retH S.h d rvs) b:=by
   rintro b ⟨h1,h2,h3⟩;refine ⟨?_,h2,λk hk hbk=>?_⟩
   . rcases h1 with h1 | h1
     . exact h1.1
     . exact hR.new _ (hnew _ h1)
   . cases hi:ownIdx d rvs k with
     | some j=>
      obtain ⟨_,T,sz,xs,hj⟩:=hidx k j hi;simp only [μ',hi] at hbk;exact h3 j _ hj rfl hbk
     | none=>
      rw [hsame k hi] at hk;simp only [μ',hi] at hbk;obtain ⟨ob,hob⟩:=Option.ne_none_iff_exists'.1 hk;rcases h1 with h1 | h1
      . exact h1.2.2 k hk hbk
      . have:=hblt k ob b hob hbk; omega
  have hok:∀ b,okOf A w μ S.h b->okOf A w' μ' (retH S.h d rvs) b:=by
   intro b hb';refine ⟨hb'.1,Nat.lt_of_lt_of_le hb'.2.1 hb.size,λk hk hbk=>?_⟩;cases hi:ownIdx d rvs k with
   | some j=>
    obtain ⟨_,T,sz,xs,hj⟩:=hidx k j hi;simp only [μ',hi] at hbk;have:=((hown j T sz xs hj).lt hbk).1;have:=hb'.2.1;omega
   | none=>
    rw [hsame k hi] at hk;simp only [μ',hi] at hbk;exact hb'.2.2 k hk hbk
  have hcell:∀ b o,okOf A w μ S.h b->w'.cell? ⟨b,o,none⟩=w.cell? ⟨b,o,none⟩:=λb o hb'=>cell?_of_heap (hb.block b hb'.2.1) o;have K:Keeps A w μ S.h w' μ' (retH S.h d rvs):=by
   refine ⟨hok,hcell,λk=>?_⟩;cases hi:ownIdx d rvs k with
   | some j=>
    obtain ⟨_,T,sz,xs,hj⟩:=hidx k j hi;rw [hchg k j T sz xs hi hj];exact .inl (by simp)
   | none=>
    rw [hsame k hi];exact .inr ⟨rfl,rfl,by simp [μ',hi]⟩
  have H':HeapOK A w' w0 μ' (retH S.h d rvs):=by
   refine ⟨λk ob hob=>?_,λk k' b hk hk' hb1 hb2=>?_,λk g wd v hv=>?_,λk ob hob=>?_⟩
   . cases hi:ownIdx d rvs k with
     | some j=>
      obtain ⟨_,T,sz,xs,hj⟩:=hidx k j hi;rw [hchg k j T sz xs hi hj] at hob;simp only [Option.some.injEq] at hob; subst hob;simp only [μ',hi];exact (((hown j T sz xs hj).keep hokR (λ_ _ _=>rfl) (λ_ _=>rfl)).lower λb _ hb=>hnew b hb).x _ _
     | none=>
      rw [hsame k hi] at hob;have:=(H.obj k ob hob).keep K λb hb'=>hb.block b (hblt k ob b hob hb');simp only [μ',hi];exact this
   . cases hi:ownIdx d rvs k with
     | some j=>
      obtain ⟨e1,T,sz,xs,hj⟩:=hidx k j hi;simp only [μ',hi] at hb1;have h1:=((hown j T sz xs hj).lt hb1).1;cases hi':ownIdx d rvs k' with
      | some j'=>
       obtain ⟨e2,T',sz',xs',hj'⟩:=hidx k' j' hi';simp only [μ',hi'] at hb2;have:=hret.apart j j' _ _ b hj hj' rfl rfl hb1 hb2;subst this; omega
      | none=>
       rw [hsame k' hi'] at hk';simp only [μ',hi'] at hb2;obtain ⟨ob,hob⟩:=Option.ne_none_iff_exists'.1 hk';have:=hblt k' ob b hob hb2; omega
     | none=>
      rw [hsame k hi] at hk;simp only [μ',hi] at hb1;obtain ⟨ob,hob⟩:=Option.ne_none_iff_exists'.1 hk;have h1:=hblt k ob b hob hb1;cases hi':ownIdx d rvs k' with
      | some j'=>
       obtain ⟨e2,T',sz',xs',hj'⟩:=hidx k' j' hi';simp only [μ',hi'] at hb2;have:=((hown j' T' sz' xs' hj').lt hb2).1; omega
      | none=>
       rw [hsame k' hi'] at hk';simp only [μ',hi'] at hb2;exact H.inj k k' b hk hk' hb1 hb2
   . cases hi:ownIdx d rvs k with
     | some j=>
      obtain ⟨_,T,sz,xs,hj⟩:=hidx k j hi;rw [hchg k j T sz xs hi hj];rcases H.giv k g wd v hv with h1 | ⟨h1,_⟩
      . exact .inl (by simp only; omega)
      . exact .inl (by simp only; omega)
     | none=>
      rw [hsame k hi];simp only [μ',hi];exact H.giv k g wd v hv
   . cases hi:ownIdx d rvs k with
     | some j=>
      obtain ⟨_,T,sz,xs,hj⟩:=hidx k j hi;rw [hchg k j T sz xs hi hj] at hob;simp only [Option.some.injEq] at hob; subst hob;intro _ q hq; simp [HObj.refs] at hq
     | none=>
      rw [hsame k hi] at hob;exact H.clo k ob hob
  have hsv:∀ j rv,rvs[j]? =some rv->RelS w' (okOf A w' μ' (retH S.h d rvs)) μ' (retH S.h d rvs) (svOf S.h d j rv) (vs.getD j undef):=by
   intro j rv hj;cases rv with
   | pure v=>exact .p _ _ ((hret.rel j _ hj).mono hokR λ_ _ _=>rfl)
   | own T sz xs=>
    have hi:=hidx' j T sz xs hj;have hh:=hchg _ j T sz xs hi hj;refine .own _ _ _ _ _ (by rw [hh]) ?_;rw [hh];simp only [μ',hi,HC.width,HObj.width];obtain ⟨flat,f1,f2⟩:=hown j T sz xs hj;rcases f1.2 with ⟨hnil,hn⟩ | ⟨b',cap,cur,hbase,hB,hheap,hcap,hmax,hcur,htake⟩
    . rw [hnil,hn]; simp [SubOf]
    . rw [hbase]; exact ⟨_,_,rfl,hcap,.inr ⟨by simp,by omega⟩⟩
  have hput:=λ(x:SV) (hx:RelS w' (okOf A w' μ' (retH S.h d rvs)) μ' (retH S.h d rvs) x (packed vs))=>
   RelSt.put' (d:=some d) (x:=x) (val:=packed vs) rel hR.size hR.defers hR.new H' K hbelow (by intro t ht; exact hd t ht) hx
  simp only [St.put] at hput;exact hput _ (retSV_rel hret.len hsv)

/-- The body is there: a call of it enters it. -/
theorem enters_run {f : FuncId} {fn : Func} (h1 : P.funcs[f]? = some fn) (h2 : fn.body.isSome = true) (h3 : (fn.name == "runtime.NumGoroutine") = false) (args : Array Value) (w : World) :
 (callFunc f args).run P w= .ok (.enter f args) w:=by
 simp only [callFunc,Sem.run_bind,run_program,Result.andThen_ok,h1];rw [h3];simp [Option.isSome_iff_ne_none.1 h2]

end
end Go.Vw

namespace Go.Vw
open Go.RowKit (Below)

inductive SC where
 | skip
 | seq (a b:SC)
 | reg (ops:List SOp)
 | regD (anc:List Nat) (ops:List SOp)
 | cond (c:SX) (a b:SC)
 | block (id:Nat) (b:SC)
 | loop (b:SC)
 | scope (b:SC)
 | exit (id:Nat)
 | ret

def slim1 (P:Program) (n:Nat) (ops:Array Oper) (o:Oper):Option SOp:=
 if o.dst.all (· < n) then
  match o.guard with
  | none=>some ⟨o.dst,(slimOp P o).getD .bad,none⟩
  | some (j,want)=>match (ops[j]?).bind (·.dst) with | some g=>some ⟨o.dst,(slimOp P o).getD .bad,some (g,want)⟩ | none=>none
 else none

def slimL (P:Program) (n:Nat) (ops:Array Oper):List Oper->Option (List SOp)
 | []=>some []
 | o::rest=>match slim1 P n ops o,slimL P n ops rest with | some a,some b=>some (a::b) | _,_=>none

/-- Is the table of ancestors borne out by the edges? -/
def ancOk (ops:List Oper) (anc:List Nat):Bool:=
 ops.zipIdx.all λ(o,j)=>(List.range ops.length).all λi=> !(anc.getD j 0).testBit i || o.after.any λe=>Region.binds .any e && (e.on == i || (anc.getD e.on 0).testBit i)

def SO.opds:SO->List SX
 | .mv x | .box _ x | .load _ x | .un _ x | .conv _ x | .s2b x | .b2s x | .make _ _ _ _ x | .fieldAddr _ _ x | .field _ _ x | .extract x _ | .nilCheck x | .len _ x | .isNil _ x | .isNul _ _ x | .mkI _ x | .boxA _ _ x | .loadA _ x=>[x]
 | .pick c a b=>[c,a,b]
 | .alloc _ _ | .allocA _ _ | .bad | .nilFn | .nilSl _ _=>[]
 | .build _ ps | .buildA _ ps=>ps.map (·.2.2)
 | .mkSl _ _ ps=>ps
 | .store _ x y | .bin _ x y | .eqb _ x y | .indexAddr _ x y | .index x y | .append _ _ _ x y | .appendZ _ _ _ _ x y | .copy _ x y | .mm _ x y | .idxA _ x y | .storeA _ x y | .idxV _ x y=>[x,y]
 | .makeFn _ cs=>cs
 | .makeB _ x=>[x]
 | .slice _ x lo hi | .sliceA _ x lo hi=>x::(lo.toList++hi.toList)
 | .call f as=>f::as

def SX.slot:SX->List Nat
 | .t n=>[n]
 | _=>[]

def SOp.looks (o:SOp):List Nat:=o.op.opds.flatMap SX.slot++(match o.guard with | some (g,_)=>[g] | none=>[])

def apartS (x y:SOp):Bool:=
 (match x.dst with | some d=> !y.looks.contains d && y.dst != some d | none=>true) && (match y.dst with | some d=> !x.looks.contains d | none=>true)

/-- Every edge that binds goes back. -/
def ordOk (ops:List Oper):Bool:=ops.zipIdx.all λ(o,j)=>o.after.all λe=> !Region.binds .any e || decide (e.on<j)

/-- Any two operations that no edges tie touch different slots. -/
def apAll (l:List SOp) (anc:List Nat):Bool:=
 l.zipIdx.all λ(x,i)=>l.zipIdx.all λ(y,j)=>i == j || (anc.getD j 0).testBit i || (anc.getD i 0).testBit j || apartS x y

def slimCode (P:Program) (n:Nat):Code->Option SC
 | .skip=>some .skip
 | .seq a b=>match slimCode P n a,slimCode P n b with | some x,some y=>some (.seq x y) | _,_=>none
 | .region _ ops draw=>
  match slimL P n ops ops.toList with
  | some l=>
   if draw then
    if ancOk ops.toList (Region.before ops).toList && ordOk ops.toList && apAll l (Region.before ops).toList && P.follows .mixedOrders then some (.regD (Region.before ops).toList l) else none
   else some (.reg l)
  | none=>none
 | .cond c a b=>match slimX P 0 c,slimCode P n a,slimCode P n b with | some c,some x,some y=>some (.cond c x y) | _,_,_=>none
 | .block id b=>(slimCode P n b).map (.block id)
 | .loop b=>(slimCode P n b).map .loop
 | .exit id=>some (.exit id)
 | .ret=>some .ret
 | .label _=>some .skip
 | .scope b=>(slimCode P n b).map .scope
 | _=>none

/-- THE JUDGEMENT: whatever code this is the slim form of, run in whatever frame and world fit the state S, comes to an exit and a state of Q. -/
def WS (P:Program) (n:Nat) (sc:SC) (Q:Exit->St->Prop) (S:St):Prop:=
 ∀ c,slimCode P n c=some sc->∀ (A:Nat->Prop) (w0:Base) (a:Act) (w:World),RelSt A w0 n S a w->c.wp P (λe a' w'=>∃ S',Q e S'/\RelSt A w0 n S' a' w') a w

section
variable {P:Program} {n:Nat} {Q:Exit->St->Prop} {S:St}

theorem WS_skip (h:Q .normal S):WS P n .skip Q S:=by
 intro c hc A w0 a w hR;cases c<;>simp only [slimCode,reduceCtorEq,Option.map_eq_some_iff,and_false,exists_false] at hc<;>(try (revert hc; (repeat' split)<;>simp; done))
 . exact wp_skip ⟨S,h,hR⟩
 . exact wp_label ⟨S,h,hR⟩

theorem slim_seq {c:Code} {x y:SC} (hc:slimCode P n c=some (.seq x y)):∃ a b,c= .seq a b/\slimCode P n a=some x/\slimCode P n b=some y:=by
 cases c<;>simp only [slimCode,reduceCtorEq,Option.map_eq_some_iff,and_false,exists_false,Option.some.injEq] at hc<;>(try (revert hc; (repeat' split)<;>simp; done));split at hc
 . rename_i a b x' y' hx hy;simp only [Option.some.injEq,SC.seq.injEq] at hc;obtain ⟨rfl,rfl⟩:=hc;exact ⟨_,_,rfl,hx,hy⟩
 . cases hc

end
end Go.Vw

namespace Go.Vw
open Go.RowKit (Below)

inductive SRes where
 | tmp (t:Nat)
 | cell (t:Nat) (sz:Option Nat)

def slimRes (P:Program):List ResultVar->Option (List SRes)
 | []=>some []
 | .tmp t::rest=>(slimRes P rest).map (.tmp t:: ·)
 | .cell t T::rest=>match szOf P T,slimRes P rest with | some sz,some r=>some (.cell t sz::r) | _,_=>none

section
variable {P:Program} {A:Nat->Prop} {w0:Base} {n:Nat} {S:St}

def resRun (tmps:Array Value):ResultVar->Sem Value
 | .tmp t=>pure (tmps.getD t undef)
 | .cell a t=>do loadVar t (<- asAddr (tmps.getD a undef))

theorem results_run (fn:Func) (tmps:Array Value) {w:World} {vals:List Value} (h:(fn.results.toList.mapM (m:=Sem) (resRun tmps)).run P w= .ok vals w):(results fn tmps).run P w= .ok (packed vals) w:=by
 have h':(fn.results.mapM (m:=Sem) (resRun tmps)).run P w= .ok vals.toArray w:=by
  rw [Array.mapM_eq_mapM_toList,Sem.run_map,h]; rfl
 have e:results fn tmps=(do let vs <-fn.results.mapM (m:=Sem) (resRun tmps); pure (if h:vs.size=1 then vs[0] else .tuple vs)):=by
  unfold results;congr 1
 rw [e,Sem.run_bind,h'];simp only [Result.andThen_ok,Sem.run_pure];congr 1
 match vals with
 | []=>rfl
 | [v]=>rfl
 | v1::v2::vr=>simp [packed]

/-- A function's slim form: how many slots, its code, its results. -/
def slimF (P:Program) (fn:Func):Option (Nat × SC × List SRes):=
 match fn.body with
 | some c=>
  if fn.name == "runtime.NumGoroutine" then none else
  match slimCode P fn.ntmps c,slimRes P fn.results.toList with
  | some sc,some rs=>some (fn.ntmps,sc,rs)
  | _,_=>none
 | none=>none

end
end Go.Vw

namespace Go.Vw
open Go.RowKit (Below)

abbrev Ent:=Nat × Nat × Bool

def SO.writes:SO->Bool
 | .store .. | .storeA .. | .append .. | .appendZ .. | .copy .. =>true
 | _=>false

def SO.makes:SO->Bool
 | .box .. | .alloc .. | .boxA .. | .allocA .. | .make .. | .mkSl .. | .nilSl .. =>true
 | _=>false

/-- Operations that look at no row. -/
def SO.still:SO->Bool
 | .mv .. | .pick .. =>true
 | _=>false

/-- The owned rows that an operation comes to. -/
def entsOf (i:Nat) (dst:Option Nat) (op:SO) (S:St):List Ent:=
 (if op.still then [] else op.opds.flatMap λx=>(svref (S.ev x)).map λr=>(i,r,op.writes))++(if op.makes then dst.toList.map λr=>(i,r,true) else [])

end Go.Vw

namespace Go.Vw

inductive OutD where
 | v (c:Prop) (x:SV) (δ:Option (Nat × HC)) (E:List Ent)
 | call (f:FuncId) (args:List V)
 | callG (f:FuncId) (c:Prop) (r:Nat) (o:HObj) (args:List V)
 | stuck

def coreD (pd:List Nat) (i:Nat) (o:SOp) (S:St):OutD:=
 match aop pd S o.dst o.op with
 | .v c x δ=>.v c x δ (entsOf i o.dst o.op S)
 | .call f a=>.call f a
 | .callG f c r o a=>.callG f c r o a
 | .stuck=>match aopX S o.dst o.op with
  | .v c x δ=>.v c x δ (entsOf i o.dst o.op S)
  | _=>.stuck

def callEnt (i:Nat):List Ent:=[(i,0,true)]

/-- The rows that a call's results own. -/
def ownEnts (i:Nat):Nat->List RV->List Ent
 | _,[]=>[]
 | d,.own _ _ _::rest=>(i,d,true)::ownEnts i (d+1000) rest
 | d,.pure _::rest=>ownEnts i (d+1000) rest

def retEnts (i:Nat) (dst:Option Nat) (rvs:List RV):List Ent:=match dst with | some d=>callEnt i++ownEnts i d rvs | none=>callEnt i

end Go.Vw

namespace Go.Vw
open Go.RowKit (Below)

def okEnt (anc:List Nat) (e f:Ent):Bool:=e.1 == f.1 || !(e.2.2 || f.2.2) || (anc.getD f.1 0).testBit e.1 || (anc.getD e.1 0).testBit f.1 || e.2.1 != f.2.1

/-- No two operations that no edges tie come to one row, one of them writing. -/
def okLog (anc:List Nat) (L:List Ent):Bool:=L.all λe=>L.all λf=>okEnt anc e f

section
variable {P:Program} {pd:List Nat} {anc:List Nat} {ops:Array Oper} {sops:List SOp} {K:St->Prop}

theorem okLog_sub {L L':List Ent} (h:okLog anc L=true) (hs:∀ e∈L',e∈L):okLog anc L'=true:=by
 simp only [okLog,List.all_eq_true] at h ⊢;exact λe he f hf=>h e (hs e he) f (hs f hf)

theorem ready_lt {listed:Array Bool} {i:Nat} (h:i∈Region.ready .any ops listed):i<ops.size:=by
 obtain ⟨_,o,ho,_⟩:=mem_ready.1 h;exact (Array.getElem?_eq_some_iff.1 ho).1

def Closed (ops:Array Oper) (listed:Array Bool):Prop:=∀ j,listed.getD j false=true->∀ o,ops[j]? =some o->∀ e∈o.after,Region.binds .any e=true->listed.getD e.on false=true

theorem anc_edge (ha:ancOk ops.toList anc=true) {j i:Nat} {o:Oper} (hj:ops[j]? =some o) (hi:i<ops.size) (h:(anc.getD j 0).testBit i=true):
 ∃ e∈o.after,Region.binds .any e=true/\(e.on=i\/(anc.getD e.on 0).testBit i=true):=by
 simp only [ancOk,List.all_eq_true] at ha;have h1:=ha (o,j) (by
  rw [List.mem_iff_getElem?];exact ⟨j,by rw [List.getElem?_zipIdx]; simp [hj]⟩)
 have h2:=h1 i (by simpa using hi);simp only [h,Bool.not_true,Bool.false_or,Array.any_eq_true',Bool.and_eq_true,Bool.or_eq_true,beq_iff_eq] at h2;obtain ⟨e,he,hb,hc⟩:=h2;exact ⟨e,he,hb,hc⟩

theorem ord_edge (ho:ordOk ops.toList=true) {j:Nat} {o:Oper} (hj:ops[j]? =some o) {e:Edge} (he:e∈o.after) (hb:Region.binds .any e=true):e.on<j:=by
 simp only [ordOk,List.all_eq_true] at ho;have h1:=ho (o,j) (by
  rw [List.mem_iff_getElem?];exact ⟨j,by rw [List.getElem?_zipIdx]; simp [hj]⟩)
 simp only [Array.all_eq_true_iff_forall_mem,Bool.or_eq_true,Bool.not_eq_true',decide_eq_true_eq] at h1;rcases h1 e he with h | h
 . rw [hb] at h; cases h
 . exact h

theorem anc_listed (ha:ancOk ops.toList anc=true) (ho:ordOk ops.toList=true) {listed:Array Bool} (hc:Closed ops listed) {i:Nat} (hi:i<ops.size):
 ∀ (j:Nat),j<ops.size->listed.getD j false=true->(anc.getD j 0).testBit i=true->listed.getD i false=true:=by
 intro j;induction j using Nat.strongRecOn with
 | _ j ih=>
  intro hj hl h;have hjo:ops[j]? =some ops[j]:=by simp [hj]
  obtain ⟨e,he,hb,h1⟩:=anc_edge ha hjo hi h;have hle:=hc j hl _ hjo e he hb;rcases h1 with h1 | h1
  . rw [<- h1]; exact hle
  . have hlt:=ord_edge ho hjo he hb;exact ih e.on hlt (by omega) hle h1

theorem getD_set {listed:Array Bool} {i j:Nat} {b:Bool}:(listed.setIfInBounds i b).getD j false=if j=i/\i<listed.size then b else listed.getD j false:=by
 simp only [Array.getD_eq_getD_getElem?,Array.getElem?_setIfInBounds];by_cases h:i=j
 . subst h;by_cases hs:i<listed.size
   . simp [hs]
   . simp [hs]
 . have h':¬ (j=i/\i<listed.size):=λhh=>h hh.1.symm;simp [h,h']

theorem Closed.set {listed:Array Bool} (hc:Closed ops listed) {i:Nat} (hi:i∈Region.ready .any ops listed):Closed ops (listed.setIfInBounds i true):=by
 intro j hj o hjo e he hb;rw [getD_set] at hj ⊢;split
 . rfl
 . split at hj
   . rename_i h; obtain ⟨rfl,_⟩:=h;obtain ⟨_,o',ho',hall⟩:=mem_ready.1 hi;rw [hjo,Option.some.injEq] at ho'; subst ho';exact hall e he hb
   . exact hc j hj o hjo e he hb

end
end Go.Vw

namespace Go.Vw
open Go.RowKit (Below)

section
variable {P:Program} {A:Nat->Prop} {w0:Base} {n:Nat} {S:St}

end
end Go.Vw

namespace Go.Vw

end Go.Vw

namespace Go.Vw

end Go.Vw

namespace Go.Vw
open Go.IntWalk

theorem i64_int (n:Int) (h0: -9223372036854775808<=n) (h:n<=9223372036854775807):IntKind.i64.wrap n=n:=i64_in _ (by omega)
end Go.Vw

namespace Go.Vw

section
variable {P:Program} {n:Nat} {pd:List Nat} {S S':St}

/-- A call: what follows is not looked at until its contract is given (X: the other way, by a contract of owned rows). -/
def CallK (P:Program) (f:FuncId) (args:List V) (K:St->Prop) (S:St) (dst:Option Nat) (X:Prop):Prop:=(∃ R,Spec P f args R/\∀ rvs,R rvs->K (S.ret dst rvs))\/X
def CallD (P:Program) (f:FuncId) (args:List V) (K:St->List Ent->Prop) (S:St) (dst:Option Nat) (i:Nat) (X:Prop):Prop:=(∃ R,Spec P f args R/\(∃ r,R r)/\∀ rvs,R rvs->K (S.ret dst rvs) (retEnts i dst rvs))\/X
def CallG (P:Program) (f:FuncId) (r:Nat) (o:HObj) (args:List V) (K:St->Prop) (S:St) (dst:Option Nat) (X:Prop):Prop:=(∃ R,SpecG P f o args R/\∀ o' gvs,R o' gvs->K (S.giv dst r o' gvs))\/X
def CallGD (P:Program) (f:FuncId) (r:Nat) (o:HObj) (args:List V) (K:St->List Ent->Prop) (S:St) (dst:Option Nat) (i:Nat) (X:Prop):Prop:=(∃ R,SpecG P f o args R/\(∃ o' gvs,R o' gvs)/\∀ o' gvs,R o' gvs->K (S.giv dst r o' gvs) (callEnt i++[(i,r,true)]))\/X

@[congr] theorem CallK_congr {f:FuncId} {args args':List V} {K:St->Prop} {S S':St} {dst:Option Nat} {X:Prop} (h1:args=args') (h2:S=S'):CallK P f args K S dst X=CallK P f args' K S' dst X:=by subst h1 h2; rfl
@[congr] theorem CallD_congr {f:FuncId} {args args':List V} {K:St->List Ent->Prop} {S S':St} {dst:Option Nat} {i:Nat} {X:Prop} (h1:args=args') (h2:S=S'):CallD P f args K S dst i X=CallD P f args' K S' dst i X:=by subst h1 h2; rfl
@[congr] theorem CallG_congr {f:FuncId} {r:Nat} {o o':HObj} {args args':List V} {K:St->Prop} {S S':St} {dst:Option Nat} {X:Prop} (h0:o=o') (h1:args=args') (h2:S=S'):CallG P f r o args K S dst X=CallG P f r o' args' K S' dst X:=by subst h0 h1 h2; rfl
@[congr] theorem CallGD_congr {f:FuncId} {r:Nat} {o o':HObj} {args args':List V} {K:St->List Ent->Prop} {S S':St} {dst:Option Nat} {i:Nat} {X:Prop} (h0:o=o') (h1:args=args') (h2:S=S'):CallGD P f r o args K S dst i X=CallGD P f r o' args' K S' dst i X:=by subst h0 h1 h2; rfl

/-- What an operation's outcome asks. -/
def acK (P:Program) (dst:Option Nat) (K:St->Prop) (S:St) (X:Prop):AR->Prop
 | .v c x δ=>c/\K ((S.heap δ).put dst x)
 | .call f args=>CallK P f args K S dst X
 | .callG f c r o args=>c/\CallG P f r o args K S dst X
 | .stuck=>X
@[congr] theorem acK_congr {dst:Option Nat} {K:St->Prop} {S S':St} {X:Prop} {r r':AR} (h1:S=S') (h2:r=r'):acK P dst K S X r=acK P dst K S' X r':=by subst h1 h2; rfl
def acD (P:Program) (dst:Option Nat) (i:Nat) (K:St->List Ent->Prop) (S:St) (E:List Ent) (X:Prop):AR->Prop
 | .v c x δ=>c/\K ((S.heap δ).put dst x) E
 | .call f args=>CallD P f args K S dst i X
 | .callG f c r o args=>c/\CallGD P f r o args K S dst i X
 | .stuck=>X
@[congr] theorem acD_congr {dst:Option Nat} {i:Nat} {K:St->List Ent->Prop} {S S':St} {E E':List Ent} {X:Prop} {r r':AR} (h1:S=S') (h2:E=E') (h3:r=r'):acD P dst i K S E X r=acD P dst i K S' E' X r':=by subst h1 h2 h3; rfl
end
end Go.Vw

namespace Go.Vw
open Go.RowKit (Below)

section
variable {P:Program} {A:Nat->Prop} {w0:Base} {n:Nat} {S:St}

end
end Go.Vw
namespace Go.Zw
open Go.RowKit (Below)
open Go.Vw (Nul Shape width)

/-- The text of a range over a function. -/
structure LC where
 ps:Array Tmp
 asg:Code
 body:Code
/-- Between two rounds; or a jump is pending: 0: return; 1: out of the block id; else: to the label id. -/
inductive LS where
 | ready
 | done (j id:Nat)
def LS.code (j id:Nat):Code:=match j with | 0=>.ret | 1=>.exit id | _=>.goto id

/-- What lies in a slot or a cell. A reference is the name of an object; names are never used twice. yl: the function that runs a round. -/
inductive Z where
 | b (x:Bool)
 | i (k:IntKind) (n:Int)
 | s (x:ByteArray)
 | nul (k:Nul)
 | nil
 | sl (r o n w:Nat)
 | ptr (r j:Nat)
 | mp (r:Nat)
 | it (r:Nat)
 | yl (r:Nat)
 | clo (f:FuncId) (fst caps:List Z)
 | ifc (T:TypeId) (x:Z)
 | agg (cs:List Z)
 | tup (cs:List Z)
 | any

instance:Inhabited Z:=⟨.any⟩

/-- An object: cells (all of a block's, or its first ones), a map, an iterator, a loop's record. -/
inductive ZO where
 | ob (T:TypeId) (fx:Bool) (cs:List Z)
 | mp (es:List (Z × Z × Nat)) (clock:Nat)
 | it (m:Option Nat) (since:Nat) (seen:List Nat) (last:Nat)
 | lp (c:LC) (σ:List Z) (st:LS)

/-- Where objects lie: block and number of cells. -/
abbrev Gh:=Nat->Nat × Nat

inductive RelZ (μ:Gh) (N:Nat):Z->Value->Prop
 | b (x:Bool):RelZ μ N (.b x) (.bool x)
 | i (k:IntKind) (n:Int):RelZ μ N (.i k n) (.int k n)
 | s (x:ByteArray):RelZ μ N (.s x) (.string x)
 | nul (k:Nul):RelZ μ N (.nul k) k.val
 | nil:RelZ μ N .nil (.slice none 0 0)
 | sl (r o n w a c:Nat) (hr:r<N) (hn:n<=c) (hm:c<=maxLen) (hc:(c=0\/a=o)/\o+c*w=(μ r).2):RelZ μ N (.sl r o n w) (.slice (some ⟨(μ r).1,a,none⟩) n c)
 | ptr (r j:Nat) (hr:r<N):RelZ μ N (.ptr r j) (.pointer (some ⟨(μ r).1,j,none⟩))
 | mp (r:Nat) (hr:r<N):RelZ μ N (.mp r) (.map (some (μ r).1))
 | it (r:Nat) (hr:r<N):RelZ μ N (.it r) (.pointer (some ⟨(μ r).1,0,none⟩))
 | yl (r:Nat) (hr:r<N):RelZ μ N (.yl r) (.func (.yield (μ r).1) #[] #[])
 | clo (f:FuncId) (fst caps:List Z) (vf vc:Array Value) (hf:vf.size=fst.length) (hc:vc.size=caps.length) (rf:∀ j (hj:j<fst.length),RelZ μ N (fst[j]) (vf.getD j undef))
  (rc:∀ j (hj:j<caps.length),RelZ μ N (caps[j]) (vc.getD j undef)):RelZ μ N (.clo f fst caps) (.func (.func f) vf vc)
 | ifc (T:TypeId) (x:Z) (val:Value) (hrel:RelZ μ N x val):RelZ μ N (.ifc T x) (.iface T val)
 | agg (cs:List Z) (vals:Array Value) (hlen:vals.size=cs.length) (hone:∀ c∈vals,c.oneCell'=true)
  (hrel:∀ j (hj:j<cs.length),RelZ μ N (cs[j]) (vals.getD j undef)):RelZ μ N (.agg cs) (.agg vals)
 | tup (cs:List Z) (vals:Array Value) (hlen:vals.size=cs.length) (hrel:∀ j (hj:j<cs.length),RelZ μ N (cs[j]) (vals.getD j undef)):RelZ μ N (.tup cs) (.tuple vals)
 | any (val:Value):RelZ μ N .any val

theorem RelZ.mono {μ μ':Gh} {N N':Nat} (hN:N<=N') (hμ:∀ r,r<N->μ' r=μ r) {z:Z} {val:Value} (h:RelZ μ N z val):RelZ μ' N' z val:=by
 induction h with
 | b x=>exact .b x
 | i k n=>exact .i k n
 | s x=>exact .s x
 | nul k=>exact .nul k
 | nil=>exact .nil
 | sl r o n w a c hr hn hm hc=>rw [<- hμ r hr] at hc ⊢; exact .sl r o n w a c (by omega) hn hm hc
 | ptr r j hr=>rw [<- hμ r hr]; exact .ptr r j (by omega)
 | mp r hr=>rw [<- hμ r hr]; exact .mp r (by omega)
 | it r hr=>rw [<- hμ r hr]; exact .it r (by omega)
 | yl r hr=>rw [<- hμ r hr]; exact .yl r (by omega)
 | clo f fst caps vf vc hf hc rf rc ihf ihc=>exact .clo f fst caps vf vc hf hc ihf ihc
 | ifc T x val hrel ih=>exact .ifc T x val ih
 | agg cs vals hlen hone hrel ih=>exact .agg cs vals hlen hone ih
 | tup cs vals hlen hrel ih=>exact .tup cs vals hlen ih
 | any val=>exact .any val

/-- One cell. -/
def Z.cell:Z->Bool
 | .agg _=>false
 | .tup _=>false
 | .any=>false
 | _=>true

theorem RelZ.one {μ:Gh} {N:Nat} {z:Z} {val:Value} (h:RelZ μ N z val) (hc:z.cell=true):val.oneCell'=true:=by
 cases h
 case nul k=>cases k<;>rfl
 all_goals first | rfl | simp [Z.cell] at hc

def Z.cells:Z->List Z
 | .agg cs=>cs
 | z=>[z]

/-- Has z this form? -/
def Z.fits (sz:Option Nat) (z:Z):Prop:=
 match sz with
 | none=>z.cell=true
 | some n=>match z with | .agg cs=>cs.length=n | _=>False

/-- Cells that read as values of slots. -/
def RelCs (μ:Gh) (N:Nat) (xs:List Z) (flat:List Value):Prop:=
 flat.length=xs.length/\∀ j (hj:j<xs.length),RelZ μ N (xs[j]) (flat.getD j undef)/\(flat.getD j undef).oneCell'=true

theorem RelCs.nil {μ:Gh} {N:Nat}:RelCs μ N [] []:=⟨rfl,λj hj=>by simp at hj⟩

theorem RelCs.mono {μ μ':Gh} {N N':Nat} (hN:N<=N') (hμ:∀ r,r<N->μ' r=μ r) {xs:List Z} {f:List Value} (h:RelCs μ N xs f):RelCs μ' N' xs f:=
 ⟨h.1,λj hj=>⟨(h.2 j hj).1.mono hN hμ,(h.2 j hj).2⟩⟩

theorem RelCs.append {μ:Gh} {N:Nat} {xs ys:List Z} {f g:List Value} (h:RelCs μ N xs f) (k:RelCs μ N ys g):RelCs μ N (xs++ys) (f++g):=by
 refine ⟨by simp [h.1,k.1],λj hj=>?_⟩;simp only [List.length_append] at hj;by_cases hlt:j<xs.length
 . have:=h.2 j hlt;rw [List.getElem_append_left hlt];have hf:j<f.length:=by rw [h.1]; exact hlt
   rw [List.getD_eq_getElem?_getD,List.getElem?_append_left hf,<-List.getD_eq_getElem?_getD];exact this
 . have hge:xs.length<=j:=Nat.le_of_not_lt hlt;have:=k.2 (j-xs.length) (by omega);rw [List.getElem_append_right hge];rw [List.getD_eq_getElem?_getD,List.getElem?_append_right (by rw [h.1]; exact hge),h.1,<-List.getD_eq_getElem?_getD];exact this

theorem RelCs.take {μ:Gh} {N:Nat} {xs:List Z} {f:List Value} (h:RelCs μ N xs f) (k:Nat):RelCs μ N (xs.take k) (f.take k):=by
 refine ⟨by simp [h.1],λj hj=>?_⟩;simp only [List.length_take] at hj;have:=h.2 j (by omega);rw [List.getElem_take,List.getD_eq_getElem?_getD,List.getElem?_take,if_pos (by omega),<-List.getD_eq_getElem?_getD];exact this

theorem RelCs.drop {μ:Gh} {N:Nat} {xs:List Z} {f:List Value} (h:RelCs μ N xs f) (k:Nat):RelCs μ N (xs.drop k) (f.drop k):=by
 refine ⟨by simp [h.1],λj hj=>?_⟩;simp only [List.length_drop] at hj;have:=h.2 (k+j) (by omega);rw [List.getElem_drop,List.getD_eq_getElem?_getD,List.getElem?_drop,<-List.getD_eq_getElem?_getD];exact this

theorem RelCs.ones {μ:Gh} {N:Nat} {xs:List Z} {f:List Value} (h:RelCs μ N xs f):∀ c∈f,c.oneCell'=true:=by
 intro c hc;obtain ⟨j,hj,rfl⟩:=List.mem_iff_getElem.1 hc;have:=(h.2 j (by rw [<- h.1]; exact hj)).2
 simpa [List.getD,hj] using this

theorem RelZ.agg_inv {μ:Gh} {N:Nat} {cs:List Z} {val:Value} (h:RelZ μ N (.agg cs) val):∃ vals:Array Value,val= .agg vals/\RelCs μ N cs vals.toList:=by
 cases h with
 | agg _ vals hlen hone hrel=>
  refine ⟨vals,rfl,by simpa using hlen,λj hj=>⟨?_,?_⟩⟩
  . have:=hrel j hj
    simpa [Array.getD_eq_getD_getElem?] using this
  . have hj':j<vals.size:=by omega
    have:=hone (vals[j]) (Array.getElem_mem hj')
    simpa [List.getD,hj'] using this

theorem RelCs.agg {μ:Gh} {N:Nat} {cs:List Z} {f:List Value} (h:RelCs μ N cs f):RelZ μ N (.agg cs) (.agg f.toArray):=by
 refine .agg cs _ (by simpa using h.1) (λc hc=>h.ones c (by simpa using hc)) λj hj=>?_;have:=(h.2 j hj).1
 simpa [Array.getD_eq_getD_getElem?] using this

theorem one_cells {val:Value} (h:val.oneCell'=true):val.cells.toList=[val]:=by cases val<;>simp_all [Value.oneCell',Value.cells]

/-- The cells of a value that has a form. -/
theorem RelZ.cells {μ:Gh} {N:Nat} {z:Z} {val:Value} {sz:Option Nat} (h:RelZ μ N z val) (hf:z.fits sz):RelCs μ N z.cells val.cells.toList/\Shape sz val/\z.cells.length=width sz:=by
 cases sz with
 | none=>
  have hone:=h.one hf;have hz:z.cells=[z]:=by cases z<;>simp_all [Z.cells,Z.fits,Z.cell]
  rw [hz,one_cells hone];refine ⟨⟨rfl,λj hj=>?_⟩,hone,rfl⟩;have:j=0:=by simpa using hj
  subst this;exact ⟨h,hone⟩
 | some n=>
  cases z with
  | agg cs=>
   obtain ⟨vals,rfl,hc⟩:=h.agg_inv;have hl:cs.length=n:=hf;exact ⟨hc,⟨vals,rfl,by have:=hc.1; simp at this; omega,λc hc'=>hc.ones c (by simpa using hc')⟩,hl⟩
  | _=>exact hf.elim

/-- A frozen range that touches none of n cells. -/
def Fz (fz:Nat × Nat) (n:Nat):Prop:=fz.1=fz.2\/n<=fz.1
theorem Fz.not {fz:Nat × Nat} {n:Nat} (h:Fz fz n) (i:Nat) (hi:i<n):¬ (fz.1<=i/\i<fz.2):=by rcases h with h | h<;>omega
theorem fz0 (n:Nat):Fz (0,0) n:=.inl rfl

/-- An object lies in the world. -/
def ObjOK (w:World) (μ:Gh) (N:Nat) (bk:Nat × Nat):ZO->Prop
 | .ob T fx cs=>∃ cur:Array Value,(∃ fz,w.heap[bk.1]? =some (.cells cur T fz)/\Fz fz bk.2)/\cur.size=bk.2/\cs.length<=bk.2/\(fx=true->cs.length=bk.2)/\RelCs μ N cs (cur.toList.take cs.length)
 | .mp es clock=>∃ es':Array MapEntry,w.heap[bk.1]? =some (.map es' clock)/\es'.size=es.length/\
  ∀ j (hj:j<es.length),RelZ μ N (es[j]).1 (es'.getD j default).key/\RelZ μ N (es[j]).2.1 (es'.getD j default).val/\(es'.getD j default).born=(es[j]).2.2
 | .it m since seen last=>(∀ r,m=some r->r<N)/\w.heap[bk.1]? =some (.mapIter (m.map λr=>(μ r).1) since seen.toArray last)
 | .lp c σ st=>∃ rc:Loop,w.heap[bk.1]? =some (.loop rc)/\rc.params=c.ps/\rc.assign=c.asg/\rc.body=c.body/\rc.tmps.size=σ.length/\(∀ t (ht:t<σ.length),RelZ μ N (σ[t]) (rc.tmps.getD t undef))/\
  (match st with | .ready=>rc.state= .ready/\rc.pending=none | .done j id=>rc.state= .done/\rc.pending=some (LS.code j id))

theorem ObjOK.keep {w w':World} {μ μ':Gh} {N N':Nat} (hN:N<=N') (hμ:∀ r,r<N->μ' r=μ r) {bk:Nat × Nat} {o:ZO} (hw:w'.heap[bk.1]? =w.heap[bk.1]?) (h:ObjOK w μ N bk o):ObjOK w' μ' N' bk o:=by
 cases o with
 | ob T fx cs=>
  obtain ⟨cur,h1,h2,h3,h4,h5⟩:=h;obtain ⟨fz,h1,hz⟩:=h1;exact ⟨cur,⟨fz,hw.trans h1,hz⟩,h2,h3,h4,h5.mono hN hμ⟩
 | mp es clock=>
  obtain ⟨es',h1,h2,h3⟩:=h;exact ⟨es',hw.trans h1,h2,λj hj=>⟨(h3 j hj).1.mono hN hμ,(h3 j hj).2.1.mono hN hμ,(h3 j hj).2.2⟩⟩
 | it m since seen last=>
  obtain ⟨h1,h2⟩:=h;refine ⟨λr hr=>Nat.lt_of_lt_of_le (h1 r hr) hN,?_⟩;rw [hw,h2];cases m with
  | none=>rfl
  | some r=>simp [hμ r (h1 r rfl)]
 | lp c σ st=>
  obtain ⟨rc,h1,h2,h3,h4,h5,h6,h7⟩:=h;exact ⟨rc,hw.trans h1,h2,h3,h4,h5,λt ht=>(h6 t ht).mono hN hμ,h7⟩

theorem ObjOK.lt {w:World} {μ:Gh} {N:Nat} {bk:Nat × Nat} {o:ZO} (h:ObjOK w μ N bk o):bk.1<w.heap.size:=by
 have:∃ x,w.heap[bk.1]? =some x:=by
  cases o with
  | ob T fx cs=>obtain ⟨cur,⟨fz,h1,_⟩,_⟩:=h; exact ⟨_,h1⟩
  | mp es clock=>obtain ⟨es',h1,_⟩:=h; exact ⟨_,h1⟩
  | it m since seen last=>exact ⟨_,h.2⟩
  | lp c σ st=>obtain ⟨rc,h1,_⟩:=h; exact ⟨_,h1⟩
 obtain ⟨x,hx⟩:=this;exact (Array.getElem?_eq_some_iff.1 hx).1

/-- Slots, objects, and the first name that is free. -/
structure ZS where
 σ:Nat->Z
 h:Nat->Option ZO
 nx:Nat

theorem halloc_old (w:World) (o:Obj) (i:Nat) (h:i<w.heap.size):(w.alloc o).heap[i]? =w.heap[i]? :=by
 show (w.heap.push o)[i]? =w.heap[i]?;rw [Array.getElem?_push,if_neg (Nat.ne_of_lt h)]
/-- Where a call begins: its world, where the objects of then lie, how many names there were, which blocks are not to turn, which calls are deferred. -/
structure Bs where
 w:World
 μ:Gh
 N:Nat
 pr:Nat->Prop
 old:∀ b,pr b->b<w.heap.size
 ds:List Deferred

/-- Package-level variables that are laid: the block, what its first cell holds. -/
def layV (k:Nat):Option Value:=if k=4 then some (.iface 312 (.agg #[.pointer (some ⟨15,57,none⟩)])) else none
def Lay (w:World) (pr:Nat->Prop):Prop:=∀ k v,layV k=some v->pr k/\w.cell? ⟨k,0,none⟩=some v

/-- What was to be kept is kept. -/
structure Keep (b:Bs) (w:World):Prop where
 os:w.os=b.w.os
 tape:w.tape=b.w.tape
 output:w.output=b.w.output
 size:b.w.heap.size<=w.heap.size
 block:∀ k,b.pr k->w.heap[k]? =b.w.heap[k]?
 lay:Lay b.w b.pr

theorem Keep.layAt {b:Bs} {w:World} (h:Keep b w) {pr:Nat->Prop} (hp:∀ k,b.pr k->pr k):Lay w pr:=λk v hk=>by
 obtain ⟨h1,h2⟩:=h.lay k v hk;refine ⟨hp k h1,?_⟩;rw [<- h2];unfold World.cell?;simp only [h.block k h1]
theorem Keep.go {b:Bs} {w w':World} (h:Keep b w) (h1:w'.os=w.os) (h2:w'.tape=w.tape) (h3:w'.output=w.output) (h4:w.heap.size<=w'.heap.size) (h5:∀ k,b.pr k->w'.heap[k]? =w.heap[k]?):Keep b w':=
 ⟨h1.trans h.os,h2.trans h.tape,h3.trans h.output,Nat.le_trans h.size h4,λk hk=>(h5 k hk).trans (h.block k hk),h.lay⟩

/-- A world that has grown alone. -/
theorem Keep.grow {b:Bs} {w w':World} (h:Keep b w) (k:Below w.heap.size w w'):Keep b w':=
 h.go k.os k.tape k.output k.size λj hj=>k.block j (Nat.lt_of_lt_of_le (b.old j hj) h.size)

structure HeapOK (w:World) (w0:Bs) (μ:Gh) (N:Nat) (h:Nat->Option ZO):Prop where
 obj:∀ r o,h r=some o->r<N/\¬ w0.pr (μ r).1/\ObjOK w μ N (μ r) o
 inj:∀ r r',h r≠none->h r'≠none->(μ r).1=(μ r').1->r=r'
 base:w0.N<=N/\∀ r,r<w0.N->μ r=w0.μ r

/-- The frame and the world are as the state says; nothing that was there at the start has turned. -/
structure RelSt (w0:Bs) (n:Nat) (S:ZS) (a:Act) (w:World):Prop where
 ex:∃ μ,HeapOK w w0 μ S.nx S.h/\∀ t,RelZ μ S.nx (S.σ t) (a.tmps.getD t undef)
 below:Keep w0 w
 size:a.tmps.size=n
 defers:a.defers=w0.ds

def upd {α:Type} (f:Nat->α) (k:Nat) (v:α):Nat->α:=λx=>if x=k then v else f x
@[simp] theorem upd_same {α:Type} (f:Nat->α) (k:Nat) (v:α):upd f k v k=v:=by simp [upd]
theorem upd_ne {α:Type} (f:Nat->α) {k x:Nat} (v:α) (h:x≠k):upd f k v x=f x:=by simp [upd,h]
theorem upd_apply {α:Type} (f:Nat->α) (k x:Nat) (v:α):upd f k v x=if x=k then v else f x:=rfl

/-- A new object at the free name N, in a new block. -/
theorem HeapOK.new {w w':World} {w0:Bs} {μ:Gh} {N:Nat} {h:Nat->Option ZO} (H:HeapOK w w0 μ N h) {o:ZO} {bk:Nat × Nat} (hb:bk.1=w.heap.size) (hsz:Keep w0 w)
 (hw:∀ b,b<w.heap.size->w'.heap[b]? =w.heap[b]?) (ho:ObjOK w' (upd μ N bk) (N+1) bk o):
 HeapOK w' w0 (upd μ N bk) (N+1) (upd h N (some o)):=by
 have hne:∀ r,r<N->upd μ N bk r=μ r:=λr hr=>upd_ne _ _ (by omega);refine ⟨λr x hx=>?_,λr r' h1 h2 he=>?_,Nat.le_succ_of_le H.base.1,λr hr=>(hne r (Nat.lt_of_lt_of_le hr H.base.1)).trans (H.base.2 r hr)⟩
 . by_cases e:r=N
   . subst e;rw [upd_same] at hx;cases hx;rw [upd_same];exact ⟨by omega,λhp=>by have:=w0.old _ hp; have:=hsz.size; omega,ho⟩
   . rw [upd_ne _ _ e] at hx;obtain ⟨a1,a2,a3⟩:=H.obj r x hx;rw [hne r a1];exact ⟨by omega,a2,a3.keep (by omega) hne (hw _ a3.lt)⟩
 . have lt:∀ q,q≠N->upd h N (some o) q≠none->q<N/\(μ q).1<w.heap.size:=λq e hq=>by
    rw [upd_ne _ _ e] at hq;obtain ⟨x,hx⟩:=Option.ne_none_iff_exists'.1 hq;obtain ⟨a1,_,a3⟩:=H.obj q x hx;exact ⟨a1,a3.lt⟩
   by_cases e:r=N<;>by_cases e':r'=N
   . rw [e,e']
   . obtain ⟨b1,b2⟩:=lt r' e' h2;rw [e,upd_same,hne r' b1,hb] at he; omega
   . obtain ⟨b1,b2⟩:=lt r e h1;rw [e',upd_same,hne r b1,hb] at he; omega
   . rw [upd_ne _ _ e] at h1;rw [upd_ne _ _ e'] at h2;obtain ⟨x,hx⟩:=Option.ne_none_iff_exists'.1 h1;obtain ⟨y,hy⟩:=Option.ne_none_iff_exists'.1 h2;rw [hne r (H.obj r x hx).1,hne r' (H.obj r' y hy).1] at he;exact H.inj r r' h1 h2 he

/-- Another content of an object, in its own block. -/
theorem HeapOK.turn {w w':World} {w0:Bs} {μ:Gh} {N:Nat} {h:Nat->Option ZO} (H:HeapOK w w0 μ N h) {r:Nat} {o':ZO} (hr:h r≠none) (hw:∀ b,b≠(μ r).1->b<w.heap.size->w'.heap[b]? =w.heap[b]?)
 (ho:ObjOK w' μ N (μ r) o'):HeapOK w' w0 μ N (upd h r (some o')):=by
 obtain ⟨x0,hx0⟩:=Option.ne_none_iff_exists'.1 hr;refine ⟨λq x hx=>?_,λq q' h1 h2 he=>?_,H.base⟩
 . by_cases e:q=r
   . subst e;rw [upd_same] at hx; cases hx;obtain ⟨a1,a2,_⟩:=H.obj _ _ hx0;exact ⟨a1,a2,ho⟩
   . rw [upd_ne _ _ e] at hx;obtain ⟨a1,a2,a3⟩:=H.obj q x hx;exact ⟨a1,a2,a3.keep (Nat.le_refl _) (λ_ _=>rfl) (hw _ (λeb=>e (H.inj q r (by rw [hx]; simp) hr eb)) a3.lt)⟩
 . have live:∀ q,upd h r (some o') q≠none->h q≠none:=λq hq=>by
    by_cases e:q=r
    . rw [e]; exact hr
    . rwa [upd_ne _ _ e] at hq
   exact H.inj q q' (live q h1) (live q' h2) he

/-- An object goes over to the free name N, and turns (what an append in place does). -/
theorem HeapOK.pass {w w':World} {w0:Bs} {μ:Gh} {N:Nat} {h:Nat->Option ZO} (H:HeapOK w w0 μ N h) {r:Nat} {o':ZO} (hr:h r≠none) (hw:∀ b,b≠(μ r).1->b<w.heap.size->w'.heap[b]? =w.heap[b]?)
 (ho:ObjOK w' (upd μ N (μ r)) (N+1) (μ r) o'):HeapOK w' w0 (upd μ N (μ r)) (N+1) (upd (upd h r none) N (some o')):=by
 obtain ⟨x0,hx0⟩:=Option.ne_none_iff_exists'.1 hr;obtain ⟨hrN,hr0,_⟩:=H.obj _ _ hx0;have hne:∀ q,q<N->upd μ N (μ r) q=μ q:=λq hq=>upd_ne _ _ (by omega);have old:∀ q,q≠N->upd (upd h r none) N (some o') q≠none->q≠r/\h q≠none/\q<N:=λq e hq=>by
  rw [upd_ne _ _ e] at hq;by_cases e':q=r
  . rw [e',upd_same] at hq; exact absurd rfl hq
  . rw [upd_ne _ _ e'] at hq;obtain ⟨x,hx⟩:=Option.ne_none_iff_exists'.1 hq;exact ⟨e',hq,(H.obj q x hx).1⟩
 refine ⟨λq x hx=>?_,λq q' h1 h2 he=>?_,Nat.le_succ_of_le H.base.1,λq hq=>(hne q (Nat.lt_of_lt_of_le hq H.base.1)).trans (H.base.2 q hq)⟩
 . by_cases e:q=N
   . subst e;rw [upd_same] at hx; cases hx;rw [upd_same];exact ⟨by omega,hr0,ho⟩
   . obtain ⟨e1,e2,e3⟩:=old q e (by rw [hx]; simp);rw [upd_ne _ _ e,upd_ne _ _ e1] at hx;obtain ⟨a1,a2,a3⟩:=H.obj q x hx;rw [hne q e3];exact ⟨by omega,a2,a3.keep (by omega) hne (hw _ (λeb=>e1 (H.inj q r e2 hr eb)) a3.lt)⟩
 . by_cases e:q=N<;>by_cases e':q'=N
   . rw [e,e']
   . obtain ⟨e1,e2,e3⟩:=old q' e' h2;rw [e,upd_same,hne q' e3] at he;exact absurd (H.inj q' r e2 hr he.symm) e1
   . obtain ⟨e1,e2,e3⟩:=old q e h1;rw [e',upd_same,hne q e3] at he;exact absurd (H.inj q r e2 hr he) e1
   . obtain ⟨_,e2,e3⟩:=old q e h1;obtain ⟨_,f2,f3⟩:=old q' e' h2;rw [hne q e3,hne q' f3] at he;exact H.inj q q' e2 f2 he

/-- A world that has grown alone. -/
theorem HeapOK.grow {w w':World} {w0:Bs} {μ:Gh} {N:Nat} {h:Nat->Option ZO} (H:HeapOK w w0 μ N h) (hw:∀ b,b<w.heap.size->w'.heap[b]? =w.heap[b]?):HeapOK w' w0 μ N h:=
 ⟨λr o ho=>by obtain ⟨a1,a2,a3⟩:=H.obj r o ho; exact ⟨a1,a2,a3.keep (Nat.le_refl _) (λ_ _=>rfl) (hw _ a3.lt)⟩,H.inj,H.base⟩

/-- An object is let go. -/
theorem HeapOK.drop {w:World} {w0:Bs} {μ:Gh} {N:Nat} {h:Nat->Option ZO} (H:HeapOK w w0 μ N h) {h':Nat->Option ZO} (hd:∀ r,h' r=none\/h' r=h r):HeapOK w w0 μ N h':=by
 have hh:∀ r,h' r≠none->h' r=h r:=λr hr=>(hd r).resolve_left hr;exact ⟨λr o ho=>H.obj r o (by rw [<- hh r (by rw [ho]; simp)]; exact ho),λr r' h1 h2 he=>H.inj r r' (by rw [<- hh r h1]; exact h1) (by rw [<- hh r' h2]; exact h2) he,H.base⟩
end Go.Zw
namespace Go.Zw
open Go.RowKit (Below)
open Go.Vw (Nul Shape width V SX SO szOf slimX slimXs slimO slimParts zeroOf zeroV zeroFit zerosFit cst slimOp slimOp0 slimArr arrOf tsz run_zero run_sz run_isAgg)

/-- A constant cell. -/
def vz1:V->Z
 | .b x=>.b x
 | .i k n=>.i k n
 | .s x=>.s x
 | .nul k=>.nul k
 | .sl _ _=>.nil
 | _=>.any
def vz:V->Z
 | .agg cs=>.agg (cs.map vz1)
 | v=>vz1 v

theorem zeroFit_z {v:Value} {x:V} (h:zeroFit v x=true) (μ:Gh) (N:Nat):RelZ μ N (vz1 x) v/\v.oneCell'=true:=by
 unfold zeroFit at h;split at h
 . simp at h; subst h; exact ⟨.b _,rfl⟩
 . simp at h; obtain ⟨rfl,rfl⟩:=h; exact ⟨.i _ _,rfl⟩
 . simp at h; subst h; exact ⟨.s _,rfl⟩
 . exact ⟨.nil,rfl⟩
 . exact ⟨.nul .ptr,rfl⟩
 . exact ⟨.nul .iface,rfl⟩
 . exact ⟨.nul .func,rfl⟩
 . exact ⟨.nul .map,rfl⟩
 . cases h

theorem zerosFit_z:∀ {vs:List Value} {xs:List V},zerosFit vs xs=true->∀ (μ:Gh) (N:Nat),RelCs μ N (xs.map vz1) vs
 | [],[],_,μ,N=>RelCs.nil
 | v::vs,x::xs,h,μ,N=>by
  simp only [zerosFit,Bool.and_eq_true] at h;obtain ⟨h1,h2⟩:=zeroFit_z h.1 μ N;have h3:RelCs μ N [vz1 x] [v]:=⟨rfl,λj hj=>by
   have:j=0:=by simpa using hj
   subst this; exact ⟨h1,h2⟩⟩
  exact h3.append (zerosFit_z h.2 μ N)
 | [],_::_,h,_,_=>by simp [zerosFit] at h
 | _::_,[],h,_,_=>by simp [zerosFit] at h

theorem zeroOf_z {P:Program} {T:TypeId} {cs:List V} (h:zeroOf P T=some cs):∃ i z,P.info? T=some i/\i.zero=some z/\∀ μ N,RelCs μ N (cs.map vz1) z.cells.toList:=by
 unfold zeroOf at h;split at h
 . rename_i i cs' hi _;split at h
   . rename_i z hz;split at h
     . rename_i hf;simp only [Option.some.injEq] at h; subst h;exact ⟨i,z,hi,hz,zerosFit_z hf⟩
     . cases h
   . cases h
 . cases h

theorem cst_z {P:Program} {T:TypeId} {v:Value} {x:V} (h:cst P T v=some x) (μ:Gh) (N:Nat):RelZ μ N (vz x) v:=by
 unfold cst at h;split at h
 . simp at h; subst h; exact .b _
 . simp at h; subst h; exact .i _ _
 . simp at h; subst h; exact .s _
 . split at h
   . simp at h; obtain ⟨sz,_,rfl⟩:=h; exact .nil
   . cases h
 . split at h
   . split at h
     . rename_i hf;simp at h; subst h;have:=(zerosFit_z hf μ N).agg
       simpa only [vz,Array.toArray_toList] using this
     . cases h
   . cases h
 . simp at h; subst h; exact .nul .ptr
 . simp at h; subst h; exact .nul .iface
 . simp at h; subst h; exact .nul .func
 . simp at h; subst h; exact .nul .map
 . cases h

def ZS.ev (S:ZS):SX->Z
 | .t n=>S.σ n
 | .c v=>vz v
 | .f id=>.clo id [] []

def ZS.put (S:ZS) (d:Option Nat) (x:Z):ZS:=
 match d with
 | some d=>⟨upd S.σ d x,S.h,S.nx⟩
 | none=>S

/-- What becomes of the heap. -/
inductive ZD where
 | no
 | new (o:ZO)
 | turn (r:Nat) (o:ZO)
 | pass (r:Nat) (o:ZO)
 | drop (r:Nat)

def ZS.app (S:ZS):ZD->ZS
 | .no=>S
 | .new o=>⟨S.σ,upd S.h S.nx (some o),S.nx+1⟩
 | .turn r o=>⟨S.σ,upd S.h r (some o),S.nx⟩
 | .pass r o=>⟨S.σ,upd (upd S.h r none) S.nx (some o),S.nx+1⟩
 | .drop r=>⟨S.σ,upd S.h r none,S.nx⟩

/-- The operation, carried out in whatever frame and world fit the state S, leaves ones that fit S'. -/
def OpOK (P:Program) (w0:Bs) (n:Nat) (o:Oper) (S S':ZS):Prop:=
 ∀ a w,RelSt w0 n S a w->∃ nx w',(execOp a.eval o).run P w= .ok nx w'/\
  ((∃ u,nx= .value u/\RelSt w0 n S' (a.put o.dst u) w')\/(nx= .skip/\RelSt w0 n S' (a.put o.dst undef) w'))

theorem RelSt.put' {w0:Bs} {w':World} {n:Nat} {S:ZS} {a:Act} {μ μ':Gh} {N':Nat} {h':Nat->Option ZO} {d:Option Nat} {x:Z} {val:Value}
 (hrel:∀ t,RelZ μ S.nx (S.σ t) (a.tmps.getD t undef)) (hsize:a.tmps.size=n) (hdef:a.defers=w0.ds) (hN:S.nx<=N') (hμ:∀ r,r<S.nx->μ' r=μ r)
 (H':HeapOK w' w0 μ' N' h') (hbelow:Keep w0 w') (hd:∀ t,d=some t->t<n) (hx:RelZ μ' N' x val):RelSt w0 n (ZS.put ⟨S.σ,h',N'⟩ d x) (a.put d val) w':=by
 cases d with
 | none=>exact ⟨⟨μ',H',λt=>(hrel t).mono hN hμ⟩,hbelow,hsize,hdef⟩
 | some d=>
  refine ⟨⟨μ',H',λt=>?_⟩,hbelow,by simpa [Act.put] using hsize,hdef⟩;simp only [ZS.put,Act.put];rw [Go.Vw.getD_put _ _ _ _ (by rw [hsize]; exact hd d rfl),upd_apply];split
  . exact hx
  . exact (hrel t).mono hN hμ

theorem take_patch {α:Type} (L f:List α) (j m:Nat) (h:j+f.length<=m) (hm:m<=L.length):
 (L.take j++f++L.drop (j+f.length)).take m=(L.take m).take j++f++(L.take m).drop (j+f.length):=by
 have l2:(L.take j).length=j:=by simp; omega
 rw [List.take_take,Nat.min_eq_left (by omega),List.drop_take,List.append_assoc,List.append_assoc,List.take_append,List.take_append,l2,
  List.take_of_length_le (l:=L.take j) (by omega),List.take_of_length_le (l:=f) (by omega),Nat.sub_sub]

section
variable {P:Program} {w0:Bs} {n:Nat} {o:Oper} {S:ZS}

theorem ev_rel {T:TypeId} {x:Operand} {sx:SX} (hx:slimX P T x=some sx) {a:Act} {μ:Gh} {N:Nat} (rel:∀ t,RelZ μ N (S.σ t) (a.tmps.getD t undef)):RelZ μ N (S.ev sx) (a.eval x):=by
 cases x with
 | tmp t=>simp only [slimX,Option.some.injEq] at hx; subst hx; exact rel t
 | const v=>
  simp only [slimX,Option.map_eq_some_iff] at hx;obtain ⟨c,hc,rfl⟩:=hx;exact cst_z hc μ N
 | func f=>
  simp only [slimX,Option.some.injEq] at hx; subst hx;exact .clo f [] [] #[] #[] rfl rfl (λj hj=>by simp at hj) (λj hj=>by simp at hj)
 | global g=>simp [slimX] at hx

theorem pure_ok (hd:∀ t,o.dst=some t->t<n) {x:Z}
 (h:∀ (a:Act) (w:World) (μ:Gh),HeapOK w w0 μ S.nx S.h->(∀ t,RelZ μ S.nx (S.σ t) (a.tmps.getD t undef))->∃ u,(execOp a.eval o).run P w= .ok (.value u) w/\RelZ μ S.nx x u):OpOK P w0 n o S (S.put o.dst x):=by
 intro a w hR;obtain ⟨μ,H,rel⟩:=hR.ex;obtain ⟨u,hu,hx⟩:=h a w μ H rel;exact ⟨_,w,hu,.inl ⟨u,rfl,RelSt.put' rel hR.size hR.defers (Nat.le_refl _) (λ_ _=>rfl) H hR.below hd hx⟩⟩

theorem below_alloc {w:World} (h:Keep w0 w) (ob:Obj):Keep w0 (w.alloc ob):=h.grow ((Below.refl w.heap.size w).alloc (Nat.le_refl _) ob)

/-- A new object in a new block. -/
theorem new_ok (hd:∀ t,o.dst=some t->t<n) {x:Z} {T:TypeId} {fx:Bool} {cs:List Z}
 (h:∀ (a:Act) (w:World) (μ:Gh),HeapOK w w0 μ S.nx S.h->(∀ t,RelZ μ S.nx (S.σ t) (a.tmps.getD t undef))->∃ (u:Value) (cells:Array Value),
  (execOp a.eval o).run P w= .ok (.value u) (w.alloc (.cells cells T))/\RelCs μ S.nx cs (cells.toList.take cs.length)/\cs.length<=cells.size/\(fx=true->cs.length=cells.size)/\
   RelZ (upd μ S.nx (w.heap.size,cells.size)) (S.nx+1) x u):OpOK P w0 n o S ((S.app (.new (.ob T fx cs))).put o.dst x):=by
 intro a w hR;obtain ⟨μ,H,rel⟩:=hR.ex;obtain ⟨u,cells,hu,hc,hle,hfx,hx⟩:=h a w μ H rel;have hne:∀ r,r<S.nx->upd μ S.nx (w.heap.size,cells.size) r=μ r:=λr hr=>upd_ne _ _ (by omega);have H':=H.new (w':=w.alloc (.cells cells T)) (o:=.ob T fx cs) (bk:=(w.heap.size,cells.size)) rfl hR.below (λb hb=>Go.RowKit.Below.heap_alloc w _ b hb)
  ⟨cells,⟨_,heap_alloc_new w _,fz0 _⟩,rfl,hle,hfx,hc.mono (Nat.le_succ _) hne⟩
 exact ⟨_,_,hu,.inl ⟨u,rfl,RelSt.put' rel hR.size hR.defers (Nat.le_succ _) hne H' (below_alloc hR.below _) hd hx⟩⟩

/-- Cells of a row are written, where none is frozen. -/
theorem run_storeCells_atZ (P:Program) (g o:Nat) (t:TypeId) (fz:Nat × Nat):∀ (vs:List Value) (i:Nat) (cur:Array Value) (w:World),w.heap[g]? =some (.cells cur t fz)->Fz fz cur.size->o+i+vs.length<=cur.size->(∀ v∈vs,v.oneCell'=true)->
 (storeCells ⟨g,o,none⟩ vs i).run P w= .ok () (w.setRow g (cur.toList.take (o+i)++vs++cur.toList.drop (o+i+vs.length)).toArray)
 | [],i,cur,w,hg,_,_,_=>by
  simp only [storeCells,List.append_nil,List.length_nil,Nat.add_zero,List.take_append_drop,Array.toArray_toList];rw [setRow_self w g cur t fz hg];rfl
 | v::rest,i,cur,w,hg,hfz,hl,h1=>by
  have hi:o+i<cur.size:=by simp at hl; omega
  have hadd:(⟨g,o,none⟩:Addr).add i=⟨g,o+i,none⟩:=by unfold Addr.add; split<;>simp_all
  have hcell:w.cell? ⟨g,o+i,none⟩=some cur[o+i]:=by simp [World.cell?,hg,hi]
  have hfro:w.frozen? ⟨g,o+i,none⟩=false:=by
   have:=hfz.not (o+i) hi;obtain ⟨lo,hi'⟩:=fz;simp only [World.frozen?,hg,Bool.and_eq_false_iff,decide_eq_false_iff_not];simp only at this;omega
  have hst:(store ((⟨g,o,none⟩:Addr).add i) v).run P w= .ok () (w.setRow g (cur.setIfInBounds (o+i) v)):=by
   rw [hadd,run_store P w _ v _ (h1 v (by simp)),hcell];simp [hfro,setCell_eq_setRow w g (o+i) cur t fz v hg]
  have ih:=run_storeCells_atZ P g o t fz rest (i+1) (cur.setIfInBounds (o+i) v) (w.setRow g (cur.setIfInBounds (o+i) v)) (setRow_heap w g cur _ t _ hg) (by simpa using hfz) (by simp at hl ⊢; omega) (λx hx=>h1 x (by simp [hx]));simp only [storeCells,Sem.run_bind,hst,Result.andThen_ok,ih,setRow_setRow];congr 3;have e:=list_seg_step cur.toList (o+i) v rest (by simp at hl ⊢; omega)
  simpa [Array.toList_setIfInBounds,Nat.add_assoc] using e

theorem run_storeAtZ {P:Program} {T:TypeId} {sz:Option Nat} (hsz:szOf P T=some sz) {w:World} {g off:Nat} {val:Value} (hs:Shape sz val) {cur:Array Value} {T':TypeId} {fz:Nat × Nat}
 (hh:w.heap[g]? =some (.cells cur T' fz)) (hz:Fz fz cur.size) (hle:off+width sz<=cur.size):
 (Instr.storeAt T (.pointer (some ⟨g,off,none⟩)) val).run P w= .ok () (w.setRow g (cur.toList.take off++val.cells.toList++cur.toList.drop (off+width sz)).toArray):=by
 obtain ⟨d,i,hd,hi,h1,h2⟩:=Go.Vw.szOf_spec hsz;have hl:=hs.list;have:=run_storeCells_atZ P g off T' fz val.cells.toList 0 cur w hh hz (by rw [hl]; simpa using hle) (λv hv=>hs.one v (by simpa using hv));simp only [Nat.add_zero,hl] at this;simp [Instr.storeAt,Instr.sureAddr,storeVar,run_sz hsz,hs.size,this]

/-- Cells of an object are written. -/
theorem turn_ok (hd:∀ t,o.dst=some t->t<n) {xz:Z} {r j:Nat} {T:TypeId} {fx:Bool} {cs news:List Z} (hobj:S.h r=some (.ob T fx cs)) (hj:j+news.length<=cs.length)
 (h:∀ (a:Act) (w:World) (μ:Gh),HeapOK w w0 μ S.nx S.h->(∀ t,RelZ μ S.nx (S.σ t) (a.tmps.getD t undef))->∀ (cur:Array Value) (fz:Nat × Nat),w.heap[(μ r).1]? =some (.cells cur T fz)->Fz fz cur.size->j+news.length<=cur.size->
  ∃ (f:List Value) (nxt:Next) (u:Value),RelCs μ S.nx news f/\(execOp a.eval o).run P w= .ok nxt (w.setRow (μ r).1 (cur.toList.take j++f++cur.toList.drop (j+f.length)).toArray)/\
   (nxt= .value u\/(nxt= .skip/\u=undef))/\RelZ μ S.nx xz u):OpOK P w0 n o S ((S.app (.turn r (.ob T fx (cs.take j++news++cs.drop (j+news.length))))).put o.dst xz):=by
 intro a w hR;obtain ⟨μ,H,rel⟩:=hR.ex;obtain ⟨hrN,hr0,cur,⟨fz,h1,hz⟩,h2,h3,h4,h5⟩:=H.obj r _ hobj;obtain ⟨f,nxt,u,hf,hu,hnx,hx⟩:=h a w μ H rel cur fz h1 (by rw [h2]; exact hz) (by omega);have hfl:f.length=news.length:=hf.1;have hlt:(μ r).1<w.heap.size:=(Array.getElem?_eq_some_iff.1 h1).1;have hset:(w.setRow (μ r).1 (cur.toList.take j++f++cur.toList.drop (j+f.length)).toArray).heap[(μ r).1]? =some (.cells (cur.toList.take j++f++cur.toList.drop (j+f.length)).toArray T fz):=
  Go.setRow_heap w _ cur _ T _ h1
 have hoth:∀ b,b≠(μ r).1->b<w.heap.size->(w.setRow (μ r).1 (cur.toList.take j++f++cur.toList.drop (j+f.length)).toArray).heap[b]? =w.heap[b]? :=λb hb _=>Go.setRow_other w _ b _ hb;have H':=H.turn (r:=r) (o':=.ob T fx (cs.take j++news++cs.drop (j+news.length))) (by rw [hobj]; simp) hoth ⟨_,⟨fz,hset,hz⟩,?_,?_,?_,?_⟩
 . have hb:Keep w0 (w.setRow (μ r).1 (cur.toList.take j++f++cur.toList.drop (j+f.length)).toArray):=
    hR.below.go rfl rfl rfl (by simp [World.setRow]) λk hk=>Go.setRow_other w _ k _ (λe=>hr0 (e ▸ hk))
   refine ⟨nxt,_,hu,?_⟩;rcases hnx with rfl | ⟨rfl,rfl⟩
   . exact .inl ⟨u,rfl,RelSt.put' rel hR.size hR.defers (Nat.le_refl _) (λ_ _=>rfl) H' hb hd hx⟩
   . exact .inr ⟨rfl,RelSt.put' rel hR.size hR.defers (Nat.le_refl _) (λ_ _=>rfl) H' hb hd hx⟩
 . simp; omega
 . simp; omega
 . intro e; have:=h4 e; simp; omega
 . have hl:(cs.take j++news++cs.drop (j+news.length)).length=cs.length:=by simp; omega
   rw [hl];have t:=((h5.take j).append hf).append (h5.drop (j+news.length));have e:=take_patch cur.toList f j cs.length (by omega) (by simp; omega);rw [hfl] at e;simp only [hfl];rw [e];exact t
end
end Go.Zw
namespace Go.Zw
open Go.Vw (Nul V SX SO width abin aun)

def Z.scal:Z->Option V
 | .b x=>some (.b x)
 | .i k n=>some (.i k n)
 | .s x=>some (.s x)
 | _=>none

def eqK (a b:IntKind):Bool:=decide (a=b)
def binOk (op:BinOp):V->V->Bool
 | .i k a,.i k' b=>
  match op with
  | .shl | .shr=>decide (0<=b)
  | .quo | .rem=>eqK k k' && !(decide (b=0))
  | _=>eqK k k'
 | .s a,.s b=>match op with | .add=>decide (((a.size+b.size:Nat):Int)<=IntKind.i64.max) | _=>true
 | _,_=>true
theorem binOk_ok {op:BinOp} {a b:V} (h:binOk op a b=true) {c:Prop} {v:V} (he:abin op a b=some (c,v)):c:=by
 cases a<;>cases b<;>cases op<;>simp_all [binOk,abin,eqK]<;>(obtain ⟨rfl,rfl⟩:=he; simp_all)

/-- The cells of a value that can be stored. -/
def Z.lay:Z->Option (List Z)
 | .agg cs=>some cs
 | z=>if z.cell then some [z] else none

def Z.fitsB (sz:Option Nat) (z:Z):Bool:=
 match sz with
 | none=>z.cell
 | some n=>match z with | .agg cs=>cs.length == n | _=>false

/-- The elements of a slice: their cells, how many. -/
def zelems (h:Nat->Option ZO) (w:Nat):Z->Option (List Z × Nat)
 | .nil=>some ([],0)
 | .sl r o n w'=>
  match h r with
  | some (.ob _ _ cs)=>if w' == w && Nat.ble (o+n*w) cs.length then some ((cs.drop o).take (n*w),n) else none
  | _=>none
 | _=>none

def zlow (d:Int):Option Z->Option Int
 | none=>some d
 | some (.i _ n)=>some n
 | _=>none

/-- Do cells that are known reach up to hi? -/
def roomZ (h:Nat->Option ZO) (r o:Nat) (hi:Int) (w:Nat):Bool:=
 match h r with
 | some (.ob _ _ cs)=> !(w == 0) && Nat.ble (o+hi.toNat*w) cs.length
 | _=>false
theorem roomZ_inv {h:Nat->Option ZO} {r o:Nat} {hi:Int} {w:Nat} (e:roomZ h r o hi w=true):∃ T fx cs,h r=some (.ob T fx cs)/\w≠0/\o+hi.toNat*w<=cs.length:=by
 unfold roomZ at e;split at e
 . rename_i T fx cs hr;simp only [Bool.and_eq_true,Bool.not_eq_true',beq_eq_false_iff_ne,Nat.ble_eq] at e;exact ⟨T,fx,cs,hr,e.1,e.2⟩
 . cases e

def fillZ (zs:List Z):List (Nat × Nat)->List Z->List Z
 | (off,n)::ps,v::vs=>fillZ (zs.take off++v.cells++zs.drop (off+n)) ps vs
 | _,_=>zs

def fillOkZ:List (Nat × Nat)->List Z->Bool
 | (_,n)::ps,v::vs=>(match v.lay with | some cs=>cs.length == n | none=>false) && fillOkZ ps vs
 | [],[]=>true
 | _,_=>false

/-- The value of a variable of this form, at cell j. -/
def zpart (cs:List Z) (j:Nat):Option Nat->Option Z
 | none=>cs[j]?
 | some n=>if Nat.ble (j+n) cs.length then some (.agg ((cs.drop j).take n)) else none

def bytesZ (s:ByteArray):List Z:=s.data.toList.map λb=>.i .u8 b.toNat

def zop (ev:SX->Z) (h:Nat->Option ZO) (nx:Nat):SO->Option (Z × ZD)
 | .mv x=>some (ev x,.no)
 | .nilFn=>some (.nul .func,.no)
 | .nilSl _ _=>some (.nil,.no)
 | .pick c a b=>match ev c with | .b t=>some (if t then ev a else ev b,.no) | _=>none
 | .box T x | .boxA T _ x=>match (ev x).lay with | some cs=>some (.ptr nx 0,.new (.ob T true cs)) | none=>none
 | .alloc T zs | .allocA T zs=>some (.ptr nx 0,.new (.ob T true (zs.map vz1)))
 | .build zs ps | .buildA zs ps=>
  if fillOkZ (ps.map λp=>(p.1,p.2.1)) (ps.map λp=>ev p.2.2) then some (.agg (fillZ (zs.map vz1) (ps.map λp=>(p.1,p.2.1)) (ps.map λp=>ev p.2.2)),.no) else none
 | .mkSl T sz ps=>
  if ps.all λp=>(ev p).fitsB sz then some (.sl nx 0 ps.length (width sz),.new (.ob T true ((ps.map ev).flatMap Z.cells))) else none
 | .load sz a=>match ev a with
  | .ptr r j=>match h r with | some (.ob _ _ cs)=>(zpart cs j sz).map λz=>(z,.no) | _=>none
  | _=>none
 | .loadA k a=>match ev a with
  | .ptr r j=>match h r with | some (.ob _ _ cs)=>(zpart cs j (some k)).map λz=>(z,.no) | _=>none
  | _=>none
 | .store sz a x=>match ev a with
  | .ptr r j=>match h r with
   | some (.ob T fx cs)=>if (ev x).fitsB sz && Nat.ble (j+(ev x).cells.length) cs.length then some (.tup [],.turn r (.ob T fx (cs.take j++(ev x).cells++cs.drop (j+(ev x).cells.length)))) else none
   | _=>none
  | _=>none
 | .storeA k a x=>match ev a with
  | .ptr r j=>match h r with
   | some (.ob T fx cs)=>if (ev x).fitsB (some k) && Nat.ble (j+(ev x).cells.length) cs.length then some (.tup [],.turn r (.ob T fx (cs.take j++(ev x).cells++cs.drop (j+(ev x).cells.length)))) else none
   | _=>none
  | _=>none
 | .bin op x y=>match (ev x).scal,(ev y).scal with
  | some a,some b=>if binOk op a b then (abin op a b).map λc=>(vz c.2,.no) else none
  | _,_=>none
 | .eqb neg x y=>match ev x,ev y with | .b a,.b b=>some (.b (if neg then a != b else a == b),.no) | _,_=>none
 | .un op x=>match (ev x).scal with | some a=>(aun op a).map λv=>(vz v,.no) | none=>none
 | .conv k x=>match ev x with | .i _ n=>some (.i k (k.wrap n),.no) | _=>none
 | .makeFn f caps=>some (.clo f [] (caps.map ev),.no)
 | .makeB f x=>match ev x with | .ptr r j=>some (.clo f [.ptr r j] [],.no) | _=>none
 | .make T sz z bytes l=>match ev l with
  | .i _ n=>if decide (0<=n) && decide (n*bytes<=140737488355328) && decide (n<=140737488355328) then some (.sl nx 0 n.toNat (width sz),.new (.ob T true ((List.replicate n.toNat (vz z).cells).flatten))) else none
  | _=>none
 | .slice sz x lo hi=>match ev x with
  | .nil=>match sz,zlow 0 (lo.map ev),zlow 0 (hi.map ev) with | some _,some l,some m=>if decide (l=0) && decide (m=0) then some (.nil,.no) else none | _,_,_=>none
  | .sl r o n w=>match sz,zlow 0 (lo.map ev),zlow n (hi.map ev) with
   | some sz',some l,some m=>if width sz' == w && decide (0<=l) && decide (l<=m) && (decide (m<=n) || roomZ h r o m w) then some (.sl r (o+l.toNat*w) (m.toNat-l.toNat) w,.no) else none
   | _,_,_=>none
  | .s s=>match zlow 0 (lo.map ev),zlow s.size (hi.map ev) with
   | some l,some m=>if sz.isNone && decide (0<=l) && decide (l<=m) && decide (m<=s.size) then some (.s (s.extract l.toNat m.toNat),.no) else none
   | _,_=>none
  | _=>none
 | .sliceA k x lo hi=>match ev x,zlow 0 (lo.map ev),zlow k (hi.map ev) with
  | .ptr r j,some l,some m=>match h r with
   | some (.ob _ true cs)=>if j == 0 && cs.length == k && decide (0<=l) && decide (l<=m) && decide (m<=k) then some (.sl r l.toNat (m.toNat-l.toNat) 1,.no) else none
   | _=>none
  | _,_,_=>none
 | .fieldAddr off _ a=>match ev a with | .ptr r j=>some (.ptr r (j+off),.no) | _=>none
 | .field off sz x=>match ev x with | .agg cs=>(zpart cs off sz).map λz=>(z,.no) | _=>none
 | .indexAddr sz x i=>match ev x,ev i with
  | .sl r o n w,.i _ k=>if width sz == w && decide (0<=k) && decide (k<n) then some (.ptr r (o+k.toNat*w),.no) else none
  | _,_=>none
 | .idxA k x i=>match ev x,ev i with
  | .ptr r j,.i _ m=>if decide (0<=m) && decide (m<k) then some (.ptr r (j+m.toNat),.no) else none
  | _,_=>none
 | .index x i=>match ev x,ev i with
  | .s s,.i _ k=>if decide (0<=k) && decide (k<s.size) then some (.i .u8 ((s.data.toList.getD k.toNat 0).toNat:Nat),.no) else none
  | _,_=>none
 | .idxV k x i=>match ev x,ev i with
  | .agg cs,.i _ m=>if cs.length == k && decide (0<=m) && decide (m<k) then (cs[m.toNat]?).map λz=>(z,.no) else none
  | _,_=>none
 | .extract x j=>match ev x with | .tup cs=>(cs[j]?).map λz=>(z,.no) | _=>none
 | .nilCheck x=>match ev x with | .ptr r j=>some (.ptr r j,.no) | .clo f a b=>some (.clo f a b,.no) | _=>none
 | .len str x=>match ev x with
  | .nil=>if str then none else some (.i .i64 0,.no)
  | .sl _ _ n _=>if str then none else some (.i .i64 n,.no)
  | .s s=>if str then some (.i .i64 s.size,.no) else none
  | _=>none
 | .append T sz bytes x y=>match zelems h (width sz) (ev y) with
  | some (news,m)=>
   match ev x with
   | .nil=>if m == 0 then some (.nil,.no) else if Nat.ble (m*bytes) 140737488355328 && Nat.ble m 140737488355328 then some (.sl nx 0 m (width sz),.new (.ob T false news)) else none
   | .sl r o n w=>match h r with
    | some (.ob T' fx cs)=>
     if m == 0 then some (.sl r o n w,.no) else
     if w == width sz && T' == T && Nat.ble ((n+m)*bytes) 140737488355328 && Nat.ble (n+m) 140737488355328 then
          if Nat.ble (o+(n+m)*w) cs.length then some (.sl r o (n+m) w,.turn r (.ob T fx (cs.take (o+n*w)++news++cs.drop (o+n*w+news.length))))
          else if Nat.ble (o+n*w) cs.length then
           if fx then some (.sl nx 0 (n+m) w,.new (.ob T false ((cs.drop o).take (n*w)++news)))
           else if o == 0 then some (.sl nx 0 (n+m) w,.pass r (.ob T false (cs.take (n*w)++news))) else none
          else none
     else none
    | _=>none
   | _=>none
  | none=>none
 | .copy sz x y=>match ev x,zelems h (width sz) (ev y) with
  | .sl r o n w,some (news,m)=>match h r with
   | some (.ob T fx cs)=>
    if w == width sz && Nat.ble (o+n*w) cs.length then
     some (.i .i64 ((min m n:Nat):Int),.turn r (.ob T fx (cs.take o++news.take (min m n*w)++cs.drop (o+(news.take (min m n*w)).length)))) else none
   | _=>none
  | _,_=>none
 | .mm isMax x y=>match ev x,ev y with
  | .i k a,.i k' b=>some (.i k (if isMax then (if b>a then b else a) else (if b<a then b else a)),.no)
  | _,_=>none
 | .isNil neg x=>match ev x with | .nil=>some (.b (!neg),.no) | .sl _ _ _ _=>some (.b neg,.no) | _=>none
 | .isNul k neg x=>match ev x with
  | .nul k'=>if decide (k'=k) then some (.b (!neg),.no) else none
  | .ptr _ _=>if decide (k= .ptr) then some (.b neg,.no) else none
  | .ifc _ _=>if decide (k= .iface) then some (.b neg,.no) else none
  | .clo _ _ _=>if decide (k= .func) then some (.b neg,.no) else none
  | _=>none
 | .mkI T x=>some (.ifc T (ev x),.no)
 | _=>none
end Go.Zw
namespace Go.Zw
open Go.RowKit (Below)
open Go.Vw (Nul Shape width V SX SO szOf slimX slimXs slimO slimParts slimPartsA zeroOf zeroV zeroFit zerosFit cst slimOp slimOp0 slimArr slimMv slimCall arrOf tsz run_zero run_sz run_isAgg szOf_spec run_loadAt_rel run_storeAt rangeAt_of_row abin aun width_none)

theorem zpart_rel {μ:Gh} {N:Nat} {cs:List Z} {L:List Value} (hc:RelCs μ N cs (L.take cs.length)) {j:Nat} {sz:Option Nat} {z:Z} (hp:zpart cs j sz=some z):
 ∃ val,RelZ μ N z val/\Shape sz val/\∀ i c,val.cells.toList[i]? =some c->L[j+i]? =some c:=by
 cases sz with
 | none=>
  simp only [zpart] at hp;obtain ⟨hj,rfl⟩:=List.getElem?_eq_some_iff.1 hp;obtain ⟨h1,h2⟩:=hc.2 j hj;have hl:j<(L.take cs.length).length:=by rw [hc.1]; exact hj
  refine ⟨_,h1,h2,λi c hi=>?_⟩;rw [one_cells h2] at hi;cases i with
  | zero=>
   simp only [List.getElem?_cons_zero,Option.some.injEq] at hi;rw [List.getD_eq_getElem?_getD,List.getElem?_eq_getElem hl,Option.getD_some] at hi;rw [<- hi,List.getElem_take,Nat.add_zero];exact List.getElem?_eq_getElem (by simp at hl; omega)
  | succ i=>simp at hi
 | some n=>
  simp only [zpart] at hp;split at hp
  . rename_i hle;simp only [Nat.ble_eq] at hle;simp only [Option.some.injEq] at hp; subst hp;have h1:=(hc.drop j).take n;refine ⟨.agg ((L.take cs.length).drop j |>.take n).toArray,h1.agg,⟨_,rfl,?_,λc hc'=>h1.ones c (by simpa using hc')⟩,λi c hi=>?_⟩
    . have:=h1.1; simp at this ⊢; omega
    . simp only [Value.cells,List.toList_toArray,List.getElem?_take,List.getElem?_drop] at hi;split at hi
      . split at hi
        . exact hi
        . cases hi
      . cases hi
  . cases hp

section
variable {P:Program} {w0:Bs} {n:Nat} {o:Oper} {S:ZS}

theorem scal_val {μ:Gh} {N:Nat} {z:Z} {val:Value} (h:RelZ μ N z val) {v:V} (hv:z.scal=some v):val=v.out/\z=vz v:=by
 cases h<;>simp [Z.scal] at hv<;>subst hv<;>exact ⟨rfl,rfl⟩

theorem okZ_mv (hd:∀ t,o.dst=some t->t<n) {T:TypeId} {x:Operand} {sx:SX} (ho:o.op= .move x\/o.op= .assign x) (hx:slimX P T x=some sx):OpOK P w0 n o S (S.put o.dst (S.ev sx)):=
 pure_ok hd λa w μ H rel=>⟨a.eval x,by rcases ho with h | h<;>simp [execOp,h],ev_rel hx rel⟩

theorem okZ_pick (hd:∀ t,o.dst=some t->t<n) {c x y:Operand} {sc sx sy:SX} {T1 T2 T3:TypeId} (ho:o.op= .pick c x y) (hc:slimX P T1 c=some sc) (hx:slimX P T2 x=some sx) (hy:slimX P T3 y=some sy)
 {t:Bool} (hev:S.ev sc= .b t):OpOK P w0 n o S (S.put o.dst (if t then S.ev sx else S.ev sy)):=
 pure_ok hd λa w μ H rel=>by
  have h1:=ev_rel hc rel;rw [hev] at h1;have e:a.eval c= .bool t:=by generalize a.eval c=v at h1; cases h1; rfl
  refine ⟨if t then a.eval x else a.eval y,by simp [execOp,ho,e,asBool],?_⟩;cases t
  . exact ev_rel hy rel
  . exact ev_rel hx rel

theorem lay_cells {μ:Gh} {N:Nat} {z:Z} {val:Value} (h:RelZ μ N z val) {cs:List Z} (hl:z.lay=some cs):RelCs μ N cs val.cells.toList:=by
 cases z with
 | agg xs=>
  simp only [Z.lay,Option.some.injEq] at hl; subst hl;obtain ⟨vals,rfl,hc⟩:=h.agg_inv;exact hc
 | tup _=>simp [Z.lay,Z.cell] at hl
 | any=>simp [Z.lay,Z.cell] at hl
 | _=>
  simp only [Z.lay,Z.cell,if_true,Option.some.injEq] at hl; subst hl;exact (h.cells (sz:=none) rfl).1

theorem okZ_box (hd:∀ t,o.dst=some t->t<n) {T T1:TypeId} {x:Operand} {sx:SX} {cs:List Z} (ho:o.op= .box T x) (hx:slimX P T1 x=some sx) (hl:(S.ev sx).lay=some cs):
 OpOK P w0 n o S ((S.app (.new (.ob T true cs))).put o.dst (.ptr S.nx 0)):=
 new_ok hd λa w μ H rel=>by
  have hc:=lay_cells (ev_rel hx rel) hl;have hlen:(a.eval x).cells.size=cs.length:=by simpa using hc.1
  refine ⟨.pointer (some ⟨w.heap.size,0,none⟩),(a.eval x).cells,by simp [execOp,ho,Instr.box,newVar,newRow],?_,by omega,λ_=>by omega,?_⟩
  . rw [List.take_of_length_le (by simp; omega)]; exact hc
  . have:=RelZ.ptr (μ:=upd μ S.nx (w.heap.size,(a.eval x).cells.size)) (N:=S.nx+1) S.nx 0 (by omega)
    rwa [upd_same] at this

theorem okZ_alloc (hd:∀ t,o.dst=some t->t<n) {T:TypeId} {zs:List V} (ho:o.op= .alloc T) (hz:zeroOf P T=some zs):OpOK P w0 n o S ((S.app (.new (.ob T true (zs.map vz1)))).put o.dst (.ptr S.nx 0)):=
 new_ok hd λa w μ H rel=>by
  obtain ⟨i,z,hi,hz',hr⟩:=zeroOf_z hz;have hc:=hr μ S.nx;have hlen:z.cells.size=(zs.map vz1).length:=by have:=hc.1; simpa using this
  refine ⟨.pointer (some ⟨w.heap.size,0,none⟩),z.cells,by simp [execOp,ho,Instr.alloc,run_zero hi hz',newVar,newRow],?_,by omega,λ_=>by omega,?_⟩
  . rw [List.take_of_length_le (by rw [Array.length_toList]; omega)]; exact hc
  . have:=RelZ.ptr (μ:=upd μ S.nx (w.heap.size,z.cells.size)) (N:=S.nx+1) S.nx 0 (by omega)
    rwa [upd_same] at this

theorem ptr_val {μ:Gh} {N r j:Nat} {val:Value} (h:RelZ μ N (.ptr r j) val):val= .pointer (some ⟨(μ r).1,j,none⟩):=by cases h; rfl

theorem okZ_load (hd:∀ t,o.dst=some t->t<n) {T T1 T':TypeId} {x:Operand} {sx:SX} {sz:Option Nat} {r j:Nat} {fx:Bool} {cs:List Z} {z:Z} (ho:o.op= .load T x) (hsz:szOf P T=some sz) (hx:slimX P T1 x=some sx)
 (hev:S.ev sx= .ptr r j) (hobj:S.h r=some (.ob T' fx cs)) (hz:zpart cs j sz=some z):OpOK P w0 n o S (S.put o.dst z):=
 pure_ok hd λa w μ H rel=>by
  have h1:=ev_rel hx rel;rw [hev] at h1;have hval:=ptr_val h1;obtain ⟨_,_,cur,⟨fz,c1,cz⟩,c2,c3,c4,c5⟩:=H.obj r _ hobj;obtain ⟨val,v1,v2,v3⟩:=zpart_rel c5 hz;refine ⟨val,?_,v1⟩;rw [execOp,ho];simp [hval,run_loadAt_rel hsz v2 (rangeAt_of_row c1 j _ v3)]

theorem fitsB_ok {sz:Option Nat} {z:Z} (h:z.fitsB sz=true):z.fits sz:=by
 cases sz with
 | none=>exact h
 | some n=>cases z<;>simp_all [Z.fitsB,Z.fits]

theorem okZ_store (hd:∀ t,o.dst=some t->t<n) {T T1 T2 T':TypeId} {x y:Operand} {sx sy:SX} {sz:Option Nat} {r j:Nat} {fx:Bool} {cs:List Z} (ho:o.op= .store T x y) (hsz:szOf P T=some sz)
 (hx:slimX P T1 x=some sx) (hy:slimX P T2 y=some sy) (hev:S.ev sx= .ptr r j) (hobj:S.h r=some (.ob T' fx cs)) (hf:(S.ev sy).fitsB sz=true) (hle:j+(S.ev sy).cells.length<=cs.length):
 OpOK P w0 n o S ((S.app (.turn r (.ob T' fx (cs.take j++(S.ev sy).cells++cs.drop (j+(S.ev sy).cells.length))))).put o.dst (.tup [])):=
 turn_ok hd hobj hle λa w μ H rel cur fz hcur hfz hlt=>by
  have hval:=ptr_val (by have:=ev_rel hx rel; rwa [hev] at this);obtain ⟨f1,f2,f3⟩:=(ev_rel hy rel).cells (fitsB_ok hf);have hst:=run_storeAtZ (P:=P) hsz f2 hcur hfz (off:=j) (by omega);refine ⟨(a.eval y).cells.toList,.skip,undef,f1,?_,.inr ⟨rfl,rfl⟩,.tup _ _ rfl (by simp)⟩;have hl:(a.eval y).cells.toList.length=width sz:=by rw [f1.1,f3]
  rw [execOp,ho,hl];simp [hval,hst]

theorem okZ_bin (hd:∀ t,o.dst=some t->t<n) {op:BinOp} {T Ty T1 T2:TypeId} {x y:Operand} {sx sy:SX} {va vb v:V} {c:Prop} (ho:o.op= .binOp op T x y Ty) (hx:slimX P T1 x=some sx) (hy:slimX P T2 y=some sy)
 (hev:(S.ev sx).scal=some va) (hev':(S.ev sy).scal=some vb) (hb:abin op va vb=some (c,v)) (hc:c):OpOK P w0 n o S (S.put o.dst (vz v)):=
 pure_ok hd λa w μ H rel=>by
  obtain ⟨h1,_⟩:=scal_val (ev_rel hx rel) hev;obtain ⟨h2,_⟩:=scal_val (ev_rel hy rel) hev';refine ⟨v.out,?_,?_⟩
  . rw [execOp,ho];cases va with
    | i k i=>
     cases vb with
     | i k' i'=>simp [h1,h2,V.out,Go.Vw.bin_int hb hc,eqGuard_at_int]
     | _=>simp [abin] at hb
    | s s=>
     cases vb with
     | s s'=>simp [h1,h2,V.out,Go.Vw.bin_str hb hc,eqGuard_at_string]
     | _=>simp [abin] at hb
    | _=>simp [abin] at hb
  . have hr:=Go.Vw.abin_out hb w (λ_=>True);cases v with
    | b x=>exact .b _
    | i k n=>exact .i _ _
    | s x=>exact .s _
    | nul k=>cases k<;>cases hr
    | _=>cases hr

theorem okZ_un (hd:∀ t,o.dst=some t->t<n) {op:UnOp} {T T1:TypeId} {x:Operand} {sx:SX} {va v:V} (ho:o.op= .unOp op T x) (hx:slimX P T1 x=some sx) (hev:(S.ev sx).scal=some va) (hb:aun op va=some v):
 OpOK P w0 n o S (S.put o.dst (vz v)):=
 pure_ok hd λa w μ H rel=>by
  obtain ⟨h1,_⟩:=scal_val (ev_rel hx rel) hev;cases va<;>cases op<;>simp only [aun] at hb<;>cases hb;all_goals
   refine ⟨_,by rw [execOp,ho]; simp [h1,V.out,Op.unary]; rfl,?_⟩
   first | exact .i _ _ | exact .b _
end
end Go.Zw
namespace Go.Zw
open Go.RowKit (Below)
open Go.Vw (Nul Shape width V SX SO szOf slimX slimXs slimO slimParts slimPartsA zeroOf zeroV zeroFit zerosFit cst slimOp slimOp0 slimArr slimMv slimCall arrOf tsz run_zero run_sz run_isAgg szOf_spec run_loadAt_rel run_storeAt rangeAt_of_row abin aun width_none fill_cons inRow cellsOf_sz)

theorem lay_eq {z:Z} {cs:List Z} (h:z.lay=some cs):z.cells=cs:=by
 cases z<;>simp_all [Z.lay,Z.cells,Z.cell]

section
variable {P:Program} {w0:Bs} {n:Nat} {o:Oper} {S:ZS}

theorem fill_structZ {fs:Array Field} {a:Act} {μ:Gh} {N:Nat} (rel:∀ t,RelZ μ N (S.σ t) (a.tmps.getD t undef)):
 ∀ (parts:List (Nat × Operand)) (ps:List (Nat × Nat × SX)) (zs:List Z) (cells:Array Value),slimParts P fs parts=some ps->fillOkZ (ps.map λp=>(p.1,p.2.1)) (ps.map λp=>S.ev p.2.2)=true->
  RelCs μ N zs cells.toList->(∀ f∈fs,f.offset+tsz P f.type<=zs.length)->
  ∃ cells',Instr.fill ((fs.map λf=>(f.offset,tsz P f.type))[·]?) cells (parts.map λ(i,x)=>(i,a.eval x))=some cells'/\
   RelCs μ N (fillZ zs (ps.map λp=>(p.1,p.2.1)) (ps.map λp=>S.ev p.2.2)) cells'.toList
 | [],ps,zs,cells,h1,h3,h4,_=>by
  simp only [slimParts,Option.some.injEq] at h1; subst h1;exact ⟨cells,rfl,by simpa [fillZ] using h4⟩
 | (i,x)::rest,ps,zs,cells,h1,h3,h4,hof=>by
  simp only [slimParts] at h1;split at h1
  . rename_i f hf;split at h1
    . rename_i sz sx r hsz hx hr;simp only [Option.some.injEq] at h1; subst h1;simp only [List.map_cons] at h3 ⊢;simp only [fillOkZ,Bool.and_eq_true] at h3;obtain ⟨h3a,h3b⟩:=h3;split at h3a
      . rename_i cs hlay;have hcl:cs.length=width sz:=by simpa using h3a
        have hc:=lay_cells (ev_rel hx rel) hlay;have hl:=hc.1;have hz:=h4.1;simp only [Array.length_toList] at hl hz;have hmem:f∈fs:=Array.mem_of_getElem? hf;have hle:=hof f hmem;rw [cellsOf_sz hsz] at hle;have hfill:=fill_cons ((fs.map λf=>(f.offset,tsz P f.type))[·]?) cells i (a.eval x) (rest.map λ(i,x)=>(i,a.eval x)) (off:=f.offset) (size:=width sz)
         (by simp [hf,cellsOf_sz hsz]) (by rw [hl,hcl]) (by omega)
        rw [hfill];have hlz:=lay_eq hlay;refine fill_structZ rel rest r _ _ hr h3b ?_ (λg hg=>?_)
        . rw [hlz];have t1:=h4.take f.offset;have t2:=h4.drop (f.offset+width sz);exact (t1.append hc).append t2
        . have:=hof g hg;rw [hlz];simp only [List.length_append,List.length_take,List.length_drop,hcl];omega
      . cases h3a
    . cases h1
  . cases h1

theorem okZ_build (hd:∀ t,o.dst=some t->t<n) {T:TypeId} {parts:Array (Nat × Operand)} {fs:Array Field} {zs:List V} {ps:List (Nat × Nat × SX)}
 (ho:o.op= .build T parts) (hT:P.underlying T=some (.struct fs)) (hz:zeroOf P T=some zs) (hps:slimParts P fs parts.toList=some ps)
 (hof:(fs.toList.all λf=>(P.info? f.type).isSome && decide (f.offset+tsz P f.type<=zs.length))=true) (hok:fillOkZ (ps.map λp=>(p.1,p.2.1)) (ps.map λp=>S.ev p.2.2)=true):
 OpOK P w0 n o S (S.put o.dst (.agg (fillZ (zs.map vz1) (ps.map λp=>(p.1,p.2.1)) (ps.map λp=>S.ev p.2.2)))):=
 pure_ok hd λa w μ H rel=>by
  obtain ⟨i,z,hi,hz',hr⟩:=zeroOf_z hz;have hof':∀ f∈fs,(P.info? f.type).isSome=true/\f.offset+tsz P f.type<=zs.length:=λf hf=>by
   have:=List.all_eq_true.1 hof f (by simpa using hf)
   simpa using this
  obtain ⟨cells',h1,h2⟩:=fill_structZ (P:=P) (fs:=fs) rel parts.toList ps (zs.map vz1) z.cells hps hok (hr μ _) (λf hf=>by simpa using (hof' f hf).2);refine ⟨.agg cells',?_,by simpa using h2.agg⟩;have hpl:=Go.Vw.run_places (P:=P) w fs.toList λf hf=>(hof' f (by simpa using hf)).1;have hpl':(fs.mapM (m:=Sem) λf=>Prod.mk f.offset <$> sizeOf f.type).run P w= .ok (fs.map λf=>(f.offset,tsz P f.type)) w:=by
   rw [Array.mapM_eq_mapM_toList,Sem.run_map,hpl];simp only [Result.andThen_ok];congr 1;apply Array.ext';simp
  have h1':Instr.fill ((fs.map λf=>(f.offset,tsz P f.type))[·]?) z.cells (parts.map λ(i,x)=>(i,a.eval x)).toList=some cells':=by
   rw [Array.toList_map]; exact h1
  simp only [Array.toList_map,Array.getElem?_map] at h1';simp [execOp,ho,Instr.build,run_zero hi hz',run_underlying hT,hpl',h1',Result.andThen]

theorem fill_arrayZ {k:Nat} {e:TypeId} {a:Act} {μ:Gh} {N:Nat} (rel:∀ t,RelZ μ N (S.σ t) (a.tmps.getD t undef)):
 ∀ (parts:List (Nat × Operand)) (ps:List (Nat × Nat × SX)) (zs:List Z) (cells:Array Value),slimPartsA P e parts=some ps->fillOkZ (ps.map λp=>(p.1,p.2.1)) (ps.map λp=>S.ev p.2.2)=true->
  RelCs μ N zs cells.toList->zs.length=k->(ps.all λp=>decide (p.1<k))=true->
  ∃ cells',Instr.fill (λi=>some (i*1,1)) cells (parts.map λ(i,x)=>(i,a.eval x))=some cells'/\RelCs μ N (fillZ zs (ps.map λp=>(p.1,p.2.1)) (ps.map λp=>S.ev p.2.2)) cells'.toList
 | [],ps,zs,cells,h1,h3,h4,_,_=>by
  simp only [slimPartsA,Option.some.injEq] at h1; subst h1;exact ⟨cells,rfl,by simpa [fillZ] using h4⟩
 | (i,x)::rest,ps,zs,cells,h1,h3,h4,hk,hlt=>by
  simp only [slimPartsA] at h1;split at h1
  . rename_i sx r hx hr;simp only [Option.some.injEq] at h1; subst h1;simp only [List.map_cons] at h3 ⊢;simp only [List.all_cons,Bool.and_eq_true,decide_eq_true_eq] at hlt;simp only [fillOkZ,Bool.and_eq_true] at h3;obtain ⟨h3a,h3b⟩:=h3;split at h3a
    . rename_i cs hlay;have hcl:cs.length=1:=by simpa using h3a
      have hc:=lay_cells (ev_rel hx rel) hlay;have hl:=hc.1;have hz:=h4.1;simp only [Array.length_toList] at hl hz;have hfill:=fill_cons (λi=>some (i*1,1)) cells i (a.eval x) (rest.map λ(i,x)=>(i,a.eval x)) (off:=i) (size:=1) (by simp) (by rw [hl,hcl]) (by omega);rw [hfill];have hlz:=lay_eq hlay;refine fill_arrayZ (k:=k) rel rest r _ _ hr h3b ?_ ?_ hlt.2
      . rw [hlz];exact ((h4.take i).append hc).append (h4.drop (i+1))
      . rw [hlz];simp only [List.length_append,List.length_take,List.length_drop,hcl];omega
    . cases h3a
  . cases h1

theorem okZ_buildA (hd:∀ t,o.dst=some t->t<n) {T e:TypeId} {k:Nat} {parts:Array (Nat × Operand)} {zs:List V} {ps:List (Nat × Nat × SX)}
 (ho:o.op= .build T parts) (hT:P.underlying T=some (.array k e)) (he:szOf P e=some none) (hz:zeroOf P T=some zs) (hps:slimPartsA P e parts.toList=some ps) (hk:zs.length=k)
 (hlt:(ps.all λp=>decide (p.1<k))=true) (hok:fillOkZ (ps.map λp=>(p.1,p.2.1)) (ps.map λp=>S.ev p.2.2)=true):
 OpOK P w0 n o S (S.put o.dst (.agg (fillZ (zs.map vz1) (ps.map λp=>(p.1,p.2.1)) (ps.map λp=>S.ev p.2.2)))):=
 pure_ok hd λa w μ H rel=>by
  obtain ⟨i,z,hi,hz',hr⟩:=zeroOf_z hz;obtain ⟨cells',h1,h2⟩:=fill_arrayZ (P:=P) (k:=k) (e:=e) rel parts.toList ps (zs.map vz1) z.cells hps hok (hr μ _) (by simpa using hk) hlt;refine ⟨.agg cells',?_,by simpa using h2.agg⟩;have hse:=run_sz he w;simp only [width_none] at hse;have h1':Instr.fill (λi=>some (i*1,1)) z.cells (parts.map λ(i,x)=>(i,a.eval x)).toList=some cells':=by
   rw [Array.toList_map]; exact h1
  simp only [Array.toList_map] at h1';simp [execOp,ho,Instr.build,run_zero hi hz',run_underlying hT,hse];simp only [Nat.mul_one] at h1';simp [h1']

theorem fill_rowsZ {e:TypeId} {sz:Option Nat} {a:Act} {μ:Gh} {N:Nat} (rel:∀ t,RelZ μ N (S.σ t) (a.tmps.getD t undef)):
 ∀ (parts:List (Nat × Operand)) (k:Nat) (xs:List SX) (cells:Array Value),inRow k parts=true->
  slimXs P (parts.map (·.2)) (parts.map λ_=>e)=some xs->(xs.all λp=>(S.ev p).fitsB sz)=true->(k+parts.length)*width sz<=cells.size->
  ∃ flat,RelCs μ N ((xs.map S.ev).flatMap Z.cells) flat/\xs.length=parts.length/\flat.length=parts.length*width sz/\
   Instr.fill (λi=>some (i*width sz,width sz)) cells (parts.map λ(i,x)=>(i,a.eval x))=
    some (cells.toList.take (k*width sz)++flat++cells.toList.drop ((k+parts.length)*width sz)).toArray
 | [],k,xs,cells,_,h1,_,_=>by
  simp only [List.map_nil,slimXs,Option.some.injEq] at h1; subst h1;exact ⟨[],RelCs.nil,rfl,by simp,by simp [Instr.fill]⟩
 | (i,x)::rest,k,xs,cells,hrow,h1,hf,hle=>by
  simp only [inRow,Bool.and_eq_true,beq_iff_eq] at hrow;obtain ⟨rfl,hrow⟩:=hrow;simp only [List.map_cons,slimXs] at h1;split at h1
  . rename_i sx r hx hr;simp only [Option.some.injEq] at h1; subst h1;simp only [List.all_cons,Bool.and_eq_true] at hf;simp only [List.headD_cons] at hx;obtain ⟨c1,hs,c3⟩:=(ev_rel hx rel).cells (fitsB_ok hf.1);have hsz:=hs.size;simp only [List.length_cons] at hle;have hmul:(i+(rest.length+1))*width sz=i*width sz+width sz+rest.length*width sz:=by simp only [Nat.add_mul]; omega
    simp only [List.map_cons];rw [fill_cons _ cells i (a.eval x) _ rfl hsz (by omega)];have hlen:((cells.toList.take (i*width sz)++(a.eval x).cells.toList++cells.toList.drop (i*width sz+width sz)).toArray).size=cells.size:=by
     simp [hsz]; omega
    have hmul2:(i+1+rest.length)*width sz=i*width sz+width sz+rest.length*width sz:=by simp only [Nat.add_mul]; omega
    obtain ⟨flat,f1,f2,f4,f3⟩:=fill_rowsZ rel rest (i+1) r (cells.toList.take (i*width sz)++(a.eval x).cells.toList++cells.toList.drop (i*width sz+width sz)).toArray hrow hr hf.2 (by rw [hlen]; omega);have hsz':(a.eval x).cells.toList.length=width sz:=by simpa using hsz
    refine ⟨(a.eval x).cells.toList++flat,by simpa using c1.append f1,by simp [f2],by simp only [List.length_append,hsz',f4,List.length_cons,Nat.add_mul]; omega,?_⟩;rw [f3];have hw:(i+1)*width sz=i*width sz+width sz:=by simp only [Nat.add_mul]; omega
    have l1:(cells.toList.take (i*width sz)).length=i*width sz:=by simp; omega
    apply congrArg; apply congrArg;simp only [hw,hmul,hmul2,List.toList_toArray];have t1:(cells.toList.take (i*width sz)++(a.eval x).cells.toList++cells.toList.drop (i*width sz+width sz)).take (i*width sz+width sz)=cells.toList.take (i*width sz)++(a.eval x).cells.toList:=by
     rw [List.take_append_of_le_length (by simp only [List.length_append,l1,hsz']; omega)];rw [List.take_of_length_le (by simp only [List.length_append,l1,hsz']; omega)]
    have t2:(cells.toList.take (i*width sz)++(a.eval x).cells.toList++cells.toList.drop (i*width sz+width sz)).drop (i*width sz+width sz+rest.length*width sz)=cells.toList.drop (i*width sz+width sz+rest.length*width sz):=by
     rw [List.drop_append,List.drop_of_length_le (by simp only [List.length_append,l1,hsz']; omega),List.nil_append,List.drop_drop];congr 1;simp only [List.length_append,l1,hsz']; omega
    rw [t1,t2];simp only [List.length_cons,hmul,List.append_assoc]
  . cases h1

theorem okZ_mkSl (hd:∀ t,o.dst=some t->t<n) {T e:TypeId} {len:Nat} {parts:Array (Nat × Operand)} {sz:Option Nat} {xs:List SX} {zv:V}
 (ho:o.op= .buildSlice T len parts) (hT:P.underlying T=some (.slice e)) (hsz:szOf P e=some sz) (hzv:zeroV P e=some zv)
 (hxs:slimXs P (parts.toList.map (·.2)) (parts.toList.map λ_=>e)=some xs) (hlen:len=parts.size) (hrow:inRow 0 parts.toList=true) (hsmall:len*width sz<=2^24) (hpos:0<width sz)
 (hf:(xs.all λp=>(S.ev p).fitsB sz)=true):
 OpOK P w0 n o S ((S.app (.new (.ob e true ((xs.map S.ev).flatMap Z.cells)))).put o.dst (.sl S.nx 0 xs.length (width sz))):=
 new_ok hd λa w μ H rel=>by
  obtain ⟨sz',i,z,z',hs',hi,hz,hzc,hsh,_⟩:=Go.Vw.zeroV_spec hzv;rw [hsz,Option.some.injEq] at hs'; subst hs';subst hlen
  let base:Array Value:=(Array.range (parts.size*width sz)).map ((if parts.size*width sz=0 then #[] else z.cells)[· %(if parts.size*width sz=0 then #[] else z.cells).size]!)
  have hbs:base.size=parts.size*width sz:=by simp [base]
  obtain ⟨flat,f1,f2,f4,f3⟩:=fill_rowsZ (P:=P) (e:=e) (sz:=sz) rel parts.toList 0 xs base hrow hxs hf (by rw [hbs]; simp);simp only [Nat.zero_mul,List.take_zero,List.nil_append,Nat.zero_add,Array.length_toList] at f3 f2 f4;rw [List.drop_of_length_le (by simp [hbs]),List.append_nil] at f3;have hr:=run_sz hsz w;have hl:=f1.1;refine ⟨.slice (some ⟨w.heap.size,0,none⟩) parts.size parts.size,flat.toArray,?_,?_,by rw [List.size_toArray]; omega,λ_=>by rw [List.size_toArray]; omega,?_⟩
  . by_cases h0:parts.size*width sz=0
    . simp only [base,h0,if_true,Array.range_zero',Array.map_empty] at f3;simp [execOp,ho,Instr.buildSlice,run_underlying hT,hr,h0,newRow,f3,Array.range_zero']
    . simp only [base,h0,if_false] at f3;have hn:¬ (16777216<parts.size*width sz):=by omega
      simp [execOp,ho,Instr.buildSlice,run_underlying hT,hr,h0,newRow,f3,run_zero hi hz,hn]
  . rw [List.take_of_length_le (by rw [List.toList_toArray]; omega),List.toList_toArray]; exact f1
  . have:=RelZ.sl (μ:=upd μ S.nx (w.heap.size,flat.toArray.size)) (N:=S.nx+1) S.nx 0 xs.length (width sz) 0 xs.length (by omega) (Nat.le_refl _) (by
     have:xs.length<=parts.size*width sz:=by rw [f2]; exact Nat.le_mul_of_pos_right _ hpos
     simp only [maxLen]; omega) ⟨.inr rfl,by rw [upd_same]; show 0+xs.length*width sz=flat.toArray.size; rw [List.size_toArray,f4,f2,Nat.zero_add]⟩
    rw [upd_same,f2] at this;rw [f2]; exact this
end
end Go.Zw
namespace Go.Zw
open Go.RowKit (Below)
open Go.Vw (Nul Shape width V SX SO szOf slimX slimXs slimO slimParts slimPartsA zeroOf zeroV zeroFit zerosFit cst slimOp slimOp0 slimArr slimMv slimCall arrOf tsz run_zero run_sz run_isAgg szOf_spec run_loadAt_rel run_storeAt rangeAt_of_row abin aun width_none nulC NulVal bound_run)

section
variable {μ:Gh} {N:Nat} {val:Value}
theorem int_val {k:IntKind} {i:Int} (h:RelZ μ N (.i k i) val):val= .int k i:=by cases h; rfl
theorem bool_val {b:Bool} (h:RelZ μ N (.b b) val):val= .bool b:=by cases h; rfl
theorem str_val {s:ByteArray} (h:RelZ μ N (.s s) val):val= .string s:=by cases h; rfl
theorem nil_val (h:RelZ μ N .nil val):val= .slice none 0 0:=by cases h; rfl
theorem sl_val {r o n w:Nat} (h:RelZ μ N (.sl r o n w) val):∃ a c,val= .slice (some ⟨(μ r).1,a,none⟩) n c/\r<N/\n<=c/\c<=maxLen/\((c=0\/a=o)/\o+c*w=(μ r).2):=by
 cases h with
 | sl _ _ _ _ a c hr hn hm hc=>exact ⟨a,c,rfl,hr,hn,hm,hc⟩
theorem ptr_lt {r j:Nat} (h:RelZ μ N (.ptr r j) val):r<N:=by cases h; assumption
end

section
variable {P:Program} {w0:Bs} {n:Nat} {o:Oper} {S:ZS}

theorem okZ_nil (hd:∀ t,o.dst=some t->t<n) (ho:o.op= .move (.const (.slice none 0 0))\/o.op= .assign (.const (.slice none 0 0))):OpOK P w0 n o S (S.put o.dst .nil):=
 pure_ok hd λa w μ H rel=>⟨.slice none 0 0,by rcases ho with h | h<;>simp [execOp,h,Act.eval],.nil⟩

theorem okZ_nilFn (hd:∀ t,o.dst=some t->t<n) (ho:o.op= .move (.const .nilFunc)\/o.op= .assign (.const .nilFunc)):OpOK P w0 n o S (S.put o.dst (.nul .func)):=
 pure_ok hd λa w μ H rel=>⟨.nilFunc,by rcases ho with h | h<;>simp [execOp,h,Act.eval],.nul .func⟩

theorem okZ_eqb (hd:∀ t,o.dst=some t->t<n) {op:BinOp} {neg:Bool} {T Ty T1 T2:TypeId} {x y:Operand} {sx sy:SX} {b c:Bool}
 (ho:o.op= .binOp op T x y Ty) (hop:op=if neg then .neq else .eql) (hT:P.underlying T=some .bool) (hx:slimX P T1 x=some sx) (hy:slimX P T2 y=some sy) (hev:S.ev sx= .b b) (hev':S.ev sy= .b c):
 OpOK P w0 n o S (S.put o.dst (.b (if neg then b != c else b == c))):=
 pure_ok hd λa w μ H rel=>by
  have e1:=bool_val (by have:=ev_rel hx rel; rwa [hev] at this);have e2:=bool_val (by have:=ev_rel hy rel; rwa [hev'] at this);have heq:(Op.equal T (.bool b) (.bool c)).run P w= .ok (b == c) w:=Go.Vw.equalIn_bool hT b c w 9999;refine ⟨_,?_,.b _⟩;rw [execOp,ho,hop];cases neg
  . simp [e1,e2,eqGuard,binOp,heq]
  . simp [e1,e2,eqGuard,binOp,heq,bne]

theorem okZ_isNil (hd:∀ t,o.dst=some t->t<n) {op:BinOp} {neg:Bool} {T Ty e T1:TypeId} {x:Operand} {sx:SX}
 (ho:o.op= .binOp op T x (.const (.slice none 0 0)) Ty) (hop:op=if neg then .neq else .eql) (hT:P.underlying T=some (.slice e)) (hx:slimX P T1 x=some sx)
 {b:Bool} (hb:(S.ev sx= .nil/\b=true)\/((∃ r o n w,S.ev sx= .sl r o n w)/\b=false)):OpOK P w0 n o S (S.put o.dst (.b (if neg then !b else b))):=
 pure_ok hd λa w μ H rel=>by
  have h1:=ev_rel hx rel;have hv:∃ ad m c,a.eval x= .slice ad m c/\ad.isNone=b:=by
   rcases hb with ⟨h,rfl⟩ | ⟨⟨r,o',n',w',h⟩,rfl⟩
   . rw [h] at h1; exact ⟨none,0,0,nil_val h1,rfl⟩
   . rw [h] at h1; obtain ⟨a',c,h2,_⟩:=sl_val h1; exact ⟨_,_,_,h2,rfl⟩
  obtain ⟨ad,m,c,hv,hb'⟩:=hv;obtain ⟨r1,r2⟩:=Go.Vw.run_isNil hT x (.const (.slice none 0 0)) _ ad m c hv w (op:=op) (by cases neg<;>simp [hop]);have hyv:a.eval (.const (.slice none 0 0))= .slice none 0 0:=rfl;refine ⟨.bool (if op= .eql then ad.isNone else !ad.isNone),by simp only [execOp,ho,hyv,Sem.run_bind,r1,Result.andThen_ok,r2]; rfl,?_⟩;rw [hb'];cases neg<;>simp [hop]<;>exact .b _

theorem okZ_isNul (hd:∀ t,o.dst=some t->t<n) {op:BinOp} {neg:Bool} {T Ty T1:TypeId} {d:TypeDesc} {k:Nul} {x y:Operand} {sx:SX}
 (ho:o.op= .binOp op T x y Ty) (hop:op=if neg then .neq else .eql) (hT:P.underlying T=some d) (hk:nulC d y=some k) (hx:slimX P T1 x=some sx)
 {b:Bool} (hb:∀ (μ:Gh) (N:Nat) (val:Value),RelZ μ N (S.ev sx) val->NulVal k val b):OpOK P w0 n o S (S.put o.dst (.b (if neg then !b else b))):=
 pure_ok hd λa w μ H rel=>by
  have h1:=hb μ _ _ (ev_rel hx rel);obtain ⟨r1,r2⟩:=Go.Vw.run_isNul hT hk h1 (x:=x) a w (op:=op) (by cases neg<;>simp [hop]);refine ⟨.bool (if op= .eql then b else !b),by simp only [execOp,ho,Sem.run_bind,r1,Result.andThen_ok,r2]; rfl,?_⟩;cases neg<;>simp [hop]<;>exact .b _

theorem okZ_conv (hd:∀ t,o.dst=some t->t<n) {src dst T1:TypeId} {x:Operand} {sx:SX} {k k' k'':IntKind} {i:Int}
 (ho:o.op= .convert src dst x) (hs:P.underlying src=some (.int k')) (hdst:P.underlying dst=some (.int k)) (hx:slimX P T1 x=some sx) (hev:S.ev sx= .i k'' i):
 OpOK P w0 n o S (S.put o.dst (.i k (k.wrap i))):=
 pure_ok hd λa w μ H rel=>by
  have e1:=int_val (by have:=ev_rel hx rel; rwa [hev] at this);refine ⟨_,?_,.i _ _⟩;rw [execOp,ho]; simp [e1,convert,run_underlying hs,run_underlying hdst,Conv.intToInt]

theorem evs_rel:∀ {xs:List Operand} {ts:List TypeId} {sx:List SX},slimXs P xs ts=some sx->∀ {a:Act} {μ:Gh} {N:Nat},(∀ t,RelZ μ N (S.σ t) (a.tmps.getD t undef))->
 sx.length=xs.length/\∀ j (hj:j<sx.length),RelZ μ N (S.ev (sx[j])) ((xs.map a.eval).getD j undef)
 | [],_,_,h,a,μ,N,rel=>by simp only [slimXs,Option.some.injEq] at h; subst h; exact ⟨rfl,λj hj=>by simp at hj⟩
 | x::xs,ts,_,h,a,μ,N,rel=>by
  simp only [slimXs] at h;split at h
  . rename_i s r hx hr;simp only [Option.some.injEq] at h; subst h;obtain ⟨h1,h2⟩:=evs_rel hr rel;refine ⟨by simp [h1],λj hj=>?_⟩;cases j with
    | zero=>simpa [List.getD] using ev_rel hx rel
    | succ j=>simpa [List.getD] using h2 j (by simpa using hj)
  . cases h

theorem okZ_makeFn (hd:∀ t,o.dst=some t->t<n) {f:FuncId} {first caps:Array Operand} {sx:List SX} {ts:List TypeId}
 (ho:o.op= .makeFunc (.func f) first caps) (hfirst:first.size=0) (hx:slimXs P caps.toList ts=some sx):OpOK P w0 n o S (S.put o.dst (.clo f [] (sx.map S.ev))):=
 pure_ok hd λa w μ H rel=>by
  obtain ⟨h1,h2⟩:=evs_rel hx rel;have hf:first=#[]:=Array.eq_empty_of_size_eq_zero hfirst
  refine ⟨.func (.func f) #[] (caps.map a.eval),by rw [execOp,ho]; simp [Instr.makeFunc,hf],.clo f [] _ #[] _ rfl (by simpa using h1.symm) (λj hj=>by simp at hj) λj hj=>?_⟩;have:=h2 j (by simpa using hj)
  simpa [List.getD,Array.getD_eq_getD_getElem?] using this

theorem okZ_makeB (hd:∀ t,o.dst=some t->t<n) {f:FuncId} {first caps:Array Operand} {x:Operand} {sx:SX} {r j:Nat} {T1:TypeId}
 (ho:o.op= .makeFunc (.func f) first caps) (hfirst:first.toList=[x]) (hcaps:caps.size=0) (hx:slimX P T1 x=some sx) (hev:S.ev sx= .ptr r j):
 OpOK P w0 n o S (S.put o.dst (.clo f [.ptr r j] [])):=
 pure_ok hd λa w μ H rel=>by
  have h:=ev_rel hx rel;rw [hev] at h;have hf:first=#[x]:=by apply Array.ext'; simpa using hfirst
  have hc:caps=#[]:=Array.eq_empty_of_size_eq_zero hcaps;refine ⟨.func (.func f) #[a.eval x] #[],by rw [execOp,ho]; simp [Instr.makeFunc,hf,hc],.clo f _ [] _ #[] rfl rfl (λj' hj=>?_) λj hj=>by simp at hj⟩;have:j'=0:=by simpa using hj
  subst this
  simpa using h

theorem zlow_rel {x:Option Operand} {sx:Option SX} (hx:slimO P x=some sx) {d l:Int} (hl:zlow d (sx.map S.ev)=some l) {a:Act} {μ:Gh} {N:Nat} (rel:∀ t,RelZ μ N (S.σ t) (a.tmps.getD t undef)):
 (x=none/\l=d)\/∃ k y,x=some y/\a.eval y= .int k l:=by
 cases x with
 | none=>simp only [slimO,Option.some.injEq] at hx; subst hx; simp only [Option.map_none,zlow,Option.some.injEq] at hl; exact .inl ⟨rfl,hl.symm⟩
 | some y=>
  simp only [slimO,Option.map_eq_some_iff] at hx;obtain ⟨sy,hy,rfl⟩:=hx;simp only [Option.map_some] at hl;have h3:=ev_rel hy rel;cases hev:S.ev sy with
  | i k m=>
   rw [hev] at h3 hl;simp only [zlow,Option.some.injEq] at hl;subst hl;exact .inr ⟨k,y,rfl,int_val h3⟩
  | _=>rw [hev] at hl; simp [zlow] at hl

theorem zbounds_run {lo hi:Option Operand} {slo shi:Option SX} (hlo:slimO P lo=some slo) (hhi:slimO P hi=some shi) {l h:Int} {len cap:Nat} (isS:Bool)
 (hl:zlow 0 (slo.map S.ev)=some l) (hh:zlow len (shi.map S.ev)=some h) (h0:0<=l) (h1:l<=h) (h2:h<=cap) (hc:len<=cap) {a:Act} {w:World} {μ:Gh} {N:Nat}
 (rel:∀ t,RelZ μ N (S.σ t) (a.tmps.getD t undef)):
 (Instr.sliceBounds isS len cap (lo.map a.eval) (hi.map a.eval) none).run P w= .ok (l.toNat,h.toNat,cap) w:=by
 have e1:=zlow_rel hlo hl rel;have e2:=zlow_rel hhi hh rel;rcases e1 with ⟨rfl,rfl⟩ | ⟨k,y,rfl,hy⟩<;>rcases e2 with ⟨rfl,rfl⟩ | ⟨k',y',rfl,hy'⟩
 . simp [Instr.sliceBounds]
 . simp [Instr.sliceBounds,hy',bound_run (P:=P) (w:=w) (k:=k') (code:=if isS=true then BoundsCode.sliceAcap else BoundsCode.sliceAlen) (show (0:Int)<=h by omega) (show h<=(cap:Int) by omega)]
 . have hb:=bound_run (P:=P) (w:=w) (k:=k) (code:=BoundsCode.sliceB) (y:=len) h0 (show l<=(len:Int) by omega);simp [Instr.sliceBounds,hy,hb]
 . have hb:=bound_run (P:=P) (w:=w) (k:=k) (code:=BoundsCode.sliceB) (y:=h.toNat) h0 (show l<=(h.toNat:Int) by omega);simp [Instr.sliceBounds,hy,hy',hb,bound_run (P:=P) (w:=w) (k:=k') (code:=if isS=true then BoundsCode.sliceAcap else BoundsCode.sliceAlen) (show (0:Int)<=h by omega) (show h<=(cap:Int) by omega)]

theorem okZ_slice (hd:∀ t,o.dst=some t->t<n) {T e T1:TypeId} {x:Operand} {sx:SX} {lo hi:Option Operand} {slo shi:Option SX} {sz:Option Nat} {r f m w':Nat} {l h:Int}
 (ho:o.op= .slice T x lo hi none) (hT:P.underlying T=some (.slice e)) (hsz:szOf P e=some sz) (hx:slimX P T1 x=some sx) (hlo:slimO P lo=some slo) (hhi:slimO P hi=some shi)
 (hev:S.ev sx= .sl r f m w') (hw:width sz=w') (hl:zlow 0 (slo.map S.ev)=some l) (hh:zlow m (shi.map S.ev)=some h) (h0:0<=l) (h1:l<=h) (h2:h<=m\/roomZ S.h r f h w'=true):
 OpOK P w0 n o S (S.put o.dst (.sl r (f+l.toNat*w') (h.toNat-l.toNat) w')):=
 pure_ok hd λa w μ H rel=>by
  obtain ⟨ad,c,hval,hr,hn,hm,hc⟩:=sl_val (by have:=ev_rel hx rel; rwa [hev] at this);have h2:h<=c:=by
   rcases h2 with h2 | h2
   . omega
   . obtain ⟨T',fx,cs,g1,g2,g3⟩:=roomZ_inv h2;obtain ⟨_,_,cur,⟨fz,c1,cz⟩,c2,c3,c4,c5⟩:=H.obj r _ g1;have:h.toNat*w'<=c*w':=by have:=hc.2; omega
     have:=Nat.le_of_mul_le_mul_right this (Nat.pos_of_ne_zero g2);omega
  have hb:=zbounds_run (P:=P) (S:=S) (cap:=c) hlo hhi true hl hh h0 h1 h2 hn (w:=w) rel;refine ⟨.slice (some (if c=l.toNat then ⟨(μ r).1,ad,none⟩ else ⟨(μ r).1,ad+l.toNat*w',none⟩)) (h.toNat-l.toNat) (c-l.toNat),?_,?_⟩
  . rw [execOp,ho];have hs:=run_sz hsz w;rw [hw] at hs;simp [hval,Instr.sliceAt,Instr.slice,run_underlying hT,hb,hs,Addr.add_lit];split<;>rfl
  . by_cases hcl:c=l.toNat
    . rw [if_pos hcl];exact .sl _ _ _ _ _ _ hr (by omega) (by omega) ⟨.inl (by omega),by rw [<- hc.2,<-hcl,Nat.sub_self]; omega⟩
    . rw [if_neg hcl];have hc0:c≠0:=by omega
      have ha:=hc.1.resolve_left hc0;subst ha;refine .sl _ _ _ _ _ _ hr (by omega) (by omega) ⟨.inr rfl,?_⟩;have:l.toNat*w'+(c-l.toNat)*w'=c*w':=by rw [<- Nat.add_mul]; congr 1; omega
      have:=hc.2;omega

theorem okZ_slice_nil (hd:∀ t,o.dst=some t->t<n) {T e T1:TypeId} {x:Operand} {sx:SX} {lo hi:Option Operand} {slo shi:Option SX} {sz:Option Nat}
 (ho:o.op= .slice T x lo hi none) (hT:P.underlying T=some (.slice e)) (hsz:szOf P e=some sz) (hx:slimX P T1 x=some sx) (hlo:slimO P lo=some slo) (hhi:slimO P hi=some shi)
 (hev:S.ev sx= .nil) (hl:zlow 0 (slo.map S.ev)=some 0) (hh:zlow 0 (shi.map S.ev)=some 0):OpOK P w0 n o S (S.put o.dst .nil):=
 pure_ok hd λa w μ H rel=>by
  have hval:=nil_val (by have:=ev_rel hx rel; rwa [hev] at this);have hb:=zbounds_run (P:=P) (S:=S) (len:=0) (cap:=0) hlo hhi true hl hh (by omega) (by omega) (by omega) (by omega) (w:=w) rel;refine ⟨.slice none 0 0,?_,.nil⟩;rw [execOp,ho];simp only [Int.toNat_zero] at hb;simp [hval,Instr.sliceAt,Instr.slice,run_underlying hT,hb,run_sz hsz]

theorem okZ_slice_str (hd:∀ t,o.dst=some t->t<n) {T T1:TypeId} {x:Operand} {sx:SX} {lo hi:Option Operand} {slo shi:Option SX} {s:ByteArray} {l h:Int}
 (ho:o.op= .slice T x lo hi none) (hT:P.underlying T=some .string) (hx:slimX P T1 x=some sx) (hlo:slimO P lo=some slo) (hhi:slimO P hi=some shi)
 (hev:S.ev sx= .s s) (hl:zlow 0 (slo.map S.ev)=some l) (hh:zlow s.size (shi.map S.ev)=some h) (h0:0<=l) (h1:l<=h) (h2:h<=s.size):
 OpOK P w0 n o S (S.put o.dst (.s (s.extract l.toNat h.toNat))):=
 pure_ok hd λa w μ H rel=>by
  have hxv:=str_val (by have:=ev_rel hx rel; rwa [hev] at this);have hb:=zbounds_run (P:=P) (S:=S) (cap:=s.size) hlo hhi false hl hh h0 h1 h2 (Nat.le_refl _) (w:=w) rel;refine ⟨_,?_,.s _⟩;rw [execOp,ho];simp [hxv,Instr.sliceAt,Instr.slice,run_underlying hT,hb]

theorem okZ_sliceA (hd:∀ t,o.dst=some t->t<n) {T e T1 T':TypeId} {k:Nat} {x:Operand} {sx:SX} {lo hi:Option Operand} {slo shi:Option SX} {r:Nat} {cs:List Z} {l h:Int}
 (ho:o.op= .slice T x lo hi none) (hT:P.underlying T=some (.array k e)) (he:szOf P e=some none) (hk:k<=100) (hx:slimX P T1 x=some sx) (hlo:slimO P lo=some slo) (hhi:slimO P hi=some shi)
 (hev:S.ev sx= .ptr r 0) (hobj:S.h r=some (.ob T' true cs)) (hlen:cs.length=k) (hl:zlow 0 (slo.map S.ev)=some l) (hh:zlow k (shi.map S.ev)=some h) (h0:0<=l) (h1:l<=h) (h2:h<=k):
 OpOK P w0 n o S (S.put o.dst (.sl r l.toNat (h.toNat-l.toNat) 1)):=
 pure_ok hd λa w μ H rel=>by
  have hr0:=ev_rel hx rel;rw [hev] at hr0;have hval:=ptr_val hr0;obtain ⟨_,_,cur,⟨fz,c1,cz⟩,c2,c3,c4,c5⟩:=H.obj r _ hobj;have hsize:k=(μ r).2:=by rw [<- hlen]; exact c4 rfl
  have hb:=zbounds_run (P:=P) (S:=S) (cap:=k) hlo hhi false hl hh h0 h1 h2 (Nat.le_refl _) (w:=w) rel;have hse:=run_sz he w;simp only [width_none] at hse;refine ⟨.slice (some (if k=l.toNat then ⟨(μ r).1,0,none⟩ else ⟨(μ r).1,l.toNat,none⟩)) (h.toNat-l.toNat) (k-l.toNat),?_,?_⟩
  . rw [execOp,ho];simp [hval,Instr.sliceAt,Instr.sureAddr,run_underlying hT,hb,hse,Addr.add_lit]
  . have hm:k-l.toNat<=maxLen:=by have:=Go.Vw.hundred_max; omega
    by_cases hcl:k=l.toNat
    . rw [if_pos hcl];exact .sl _ _ _ _ _ _ (ptr_lt hr0) (by omega) hm ⟨.inl (by omega),by omega⟩
    . rw [if_neg hcl];exact .sl _ _ _ _ _ _ (ptr_lt hr0) (by omega) hm ⟨.inr rfl,by omega⟩
end
end Go.Zw
