/- Polynomials over the integers. -/
import Derived.Test.YtfdjbmamidmgfaaME
import Derived.Test.YtfdjbmamidmgfaaMD
import Derived.Test.YtfdjbmamidmgfaaPD
import Derived.Test.YtfdjbmamidmgfaaS6
import Derived.Test.YtfdjbmamidmgfaaPG
import Derived.Test.YtfdjbmamidmgfaaMG
import Derived.Test.YtfdjbmamidmgfaaPF
import Derived.Test.YtfdjbmamidmgfaaS7
set_option linter.unusedVariables false
set_option linter.unusedSimpArgs false
namespace Go.Vw
open Go.Proofs Go.Py
structure PW (k:Nat) (M:List (Bool × List Nat)):Prop where
 len:M.length<=k
 each:∀ p∈M,ZW k p.2
theorem polys_eq (M:List (Bool × List Nat)):((M.map fun p=>(p.1,p.2.map fun x:Nat=>(x:Int))).map fun p=>V.agg [.b p.1,.sl none (p.2.map fun z=>V.i .u64 z)])=zL M:=by
 simp [zL,zv,uL]
def piL (M:List (Bool × List Nat)):List Int:=M.map fun p=>zi p.1 p.2
def PZ (l:List Int):List V:=l.map Z
theorem PZ_length (l:List Int):(PZ l).length=l.length:=by simp [PZ]
def PL (k:Nat) (l:List Int):Prop:=∀ i,zlen (cf l i)<=k
theorem PL.mono {k m:Nat} {l:List Int} (h:PL k l) (hk:k<=m):PL m l:=fun i=>Nat.le_trans (h i) hk
theorem PL.eqp {k:Nat} {a b:List Int} (h:PL k a) (e:Eqp a b):PL k b:=fun i=>by rw [<- e i]; exact h i
structure IsP (k:Nat) (vs:List V) (l:List Int):Prop where
 len:vs.length=l.length
 get:∀ i (h:i<vs.length),IsZ k (vs[i]) (cf l i)
theorem IsP.mono {k m:Nat} {vs:List V} {l:List Int} (h:IsP k vs l) (hk:k<=m):IsP m vs l:=⟨h.len,fun i hi=>(h.get i hi).mono hk⟩
theorem isP_zL {k:Nat} {M:List (Bool × List Nat)} (h:∀ p∈M,ZW k p.2):IsP k (zL M) (piL M):=by
 refine ⟨by simp [zL,piL],fun i hi=>?_⟩;have hi':i<M.length:=by simpa [zL] using hi
 rw [cf_lt (by simpa [piL] using hi')];simp only [zL,piL,List.getElem_map];exact isZ_zv (h _ (List.getElem_mem _))
theorem isP_PZ {k:Nat} {l:List Int} (h:PL k l):IsP k (PZ l) l:=by
 refine ⟨by simp [PZ],fun i hi=>?_⟩;have hi':i<l.length:=by simpa [PZ] using hi
 have:=h i;rw [cf_lt hi'] at this ⊢;simp only [PZ,List.getElem_map];exact isZ_Z this
theorem IsP.pl {k:Nat} {vs:List V} {l:List Int} (h:IsP k vs l):PL k l:=fun i=>by
 by_cases hi:i<vs.length
 . exact (h.get i hi).zlen
 . rw [cf_ge (by have:=h.len; omega),zlen_zero]; omega
theorem IsP.take {k:Nat} {vs:List V} {l:List Int} (h:IsP k vs l) (n:Nat):IsP k (vs.take n) (l.take n):=by
 refine ⟨by have:=h.len; simp [this],fun i hi=>?_⟩;simp only [List.length_take] at hi;rw [cf_take,if_pos (by omega),List.getElem_take];exact h.get i (by omega)
theorem IsP.cell {k:Nat} {vs:List V} {l:List Int} (h:IsP k vs l) (i:Nat) (hi:i<vs.length):∃ n d,vs[i]= .agg [.b n,.sl none (uL d)]/\ZW k d/\zi n d=cf l i:=by
 obtain ⟨n,d,e,hz,hx⟩:=h.get i hi;exact ⟨n,d,e,hz,hx⟩
attribute [local simp] zv V.fits fillOk fillV Z_eq
def smR (w:Nat) (M:List (Bool × List Nat)):Bool:=M.all fun p=>decide (p.2.length<=w)
def smB (n w:Nat) (Ms:List (List (Bool × List Nat))):Bool:=Ms.all fun M=>decide (M.length<=n) && smR w M
def mL (Ms:List (List (Bool × List Nat))):List V:=Ms.map fun M=>.sl (some 2) (zL M)
theorem smB_false {n w:Nat} {Ms:List (List (Bool × List Nat))} {M:List (Bool × List Nat)} (hM:M∈Ms) (h:(decide (M.length<=n) && smR w M)=false):smB n w Ms=false:=by
 rw [smB,List.all_eq_false];exact ⟨M,hM,by rw [h]; simp⟩
theorem smB_snoc {n w:Nat} {Ms:List (List (Bool × List Nat))} {M:List (Bool × List Nat)} (h:smB n w Ms=true) (h1:M.length<=n) (h2:smR w M=true):smB n w (Ms++[M])=true:=by
 rw [smB] at h ⊢;rw [List.all_append,h];simp [h1,h2]
theorem smR_snoc {w:Nat} {M:List (Bool × List Nat)} {p:Bool × List Nat} (h:smR w M=true) (h1:p.2.length<=w):smR w (M++[p])=true:=by
 rw [smR] at h ⊢;rw [List.all_append,h];simp [h1]
def IL (l:List Int):List V:=l.map fun x=>V.i .i64 x
theorem IL_length (l:List Int):(IL l).length=l.length:=by simp [IL]
theorem IL_get (l:List Int) (i:Nat) (h:i<(IL l).length):(IL l)[i]= .i .i64 (cf l i):=by
 have hi':i<l.length:=by simpa [IL] using h
 rw [cf_lt hi'];simp only [IL,List.getElem_map]
def Sml (l:List Int):Prop:=∀ x∈l,-9223372036854775808<=x/\x<=9223372036854775807
instance (l:List Int):Decidable (Sml l):=inferInstanceAs (Decidable (∀ x∈l,_))
structure Ld (i:Nat) (l:List Int):Prop where
 pl:PL (2^i) l
 len:l.length<=2^i
structure Rd (i:Nat) (vs:List V) (l:List Int):Prop where
 isp:IsP (2^i) vs l
 len:vs.length<=2^i
theorem two_le {i j:Nat} (h:i<=j):2^i<=2^j:=Nat.pow_le_pow_right (by omega) h
theorem Ld.mono {i j:Nat} {l:List Int} (h:Ld i l) (hij:i<=j):Ld j l:=⟨h.pl.mono (two_le hij),Nat.le_trans h.len (two_le hij)⟩
theorem Rd.mono {i j:Nat} {vs:List V} {l:List Int} (h:Rd i vs l) (hij:i<=j):Rd j vs l:=⟨h.isp.mono (two_le hij),Nat.le_trans h.len (two_le hij)⟩
theorem Ld.rd {i:Nat} {l:List Int} (h:Ld i l):Rd i (PZ l) l:=⟨isP_PZ h.pl,by rw [PZ_length]; exact h.len⟩
def iM (i:Nat) (S:St):Nat:=match S.σ i with | .p (.i _ n)=>n.toNat | _=>0
end Go.Vw
