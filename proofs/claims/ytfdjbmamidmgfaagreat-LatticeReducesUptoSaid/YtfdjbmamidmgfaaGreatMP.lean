/- Polynomials over the integers. -/
import Derived.Test.YtfdjbmamidmgfaaGreatME
import Derived.Test.YtfdjbmamidmgfaaGreatMD
import Derived.Test.YtfdjbmamidmgfaaGreatPD
import Derived.Test.YtfdjbmamidmgfaaGreatS6
import Derived.Test.YtfdjbmamidmgfaaGreatPG
import Derived.Test.YtfdjbmamidmgfaaGreatMG
import Derived.Test.YtfdjbmamidmgfaaGreatPF
import Derived.Test.YtfdjbmamidmgfaaGreatS7
set_option linter.unusedVariables false
set_option linter.unusedSimpArgs false
namespace Go.Vw
open Go.Proofs Go.Py
structure PW (k:Nat) (M:List (Bool × List Nat)):Prop where
 len:M.length<=k
 each:∀ p∈M,ZW k p.2
theorem polys_eq (M:List (Bool × List Nat)):((M.map fun p=>(p.1,p.2.map fun x:Nat=>(x:Int))).map fun p=>V.agg [.b p.1,.sl none (p.2.map fun z=>V.i .u64 z)])=zL M:=by
 simp [zL,zv,uL]
def piL (M:List (Bool × List Nat)):List Int:=M.map fun p=>zi p.1 p.2
def PZ (l:List Int):List V:=l.map Z
theorem PZ_length (l:List Int):(PZ l).length=l.length:=by simp [PZ]
def PL (k:Nat) (l:List Int):Prop:=∀ i,zlen (cf l i)<=k
structure IsP (k:Nat) (vs:List V) (l:List Int):Prop where
 len:vs.length=l.length
 get:∀ i (h:i<vs.length),IsZ k (vs[i]) (cf l i)
theorem IsP.mono {k m:Nat} {vs:List V} {l:List Int} (h:IsP k vs l) (hk:k<=m):IsP m vs l:=⟨h.len,fun i hi=>(h.get i hi).mono hk⟩
theorem isP_zL {k:Nat} {M:List (Bool × List Nat)} (h:∀ p∈M,ZW k p.2):IsP k (zL M) (piL M):=by
 refine ⟨by simp [zL,piL],fun i hi=>?_⟩;have hi':i<M.length:=by simpa [zL] using hi
 rw [cf_lt (by simpa [piL] using hi')];simp only [zL,piL,List.getElem_map];exact isZ_zv (h _ (List.getElem_mem _))
theorem isP_PZ {k:Nat} {l:List Int} (h:PL k l):IsP k (PZ l) l:=by
 refine ⟨by simp [PZ],fun i hi=>?_⟩;have hi':i<l.length:=by simpa [PZ] using hi
 have:=h i;rw [cf_lt hi'] at this ⊢;simp only [PZ,List.getElem_map];exact isZ_Z this
theorem IsP.pl {k:Nat} {vs:List V} {l:List Int} (h:IsP k vs l):PL k l:=fun i=>by
 by_cases hi:i<vs.length
 . exact (h.get i hi).zlen
 . rw [cf_ge (by have:=h.len; omega),zlen_zero]; omega
theorem IsP.cell {k:Nat} {vs:List V} {l:List Int} (h:IsP k vs l) (i:Nat) (hi:i<vs.length):∃ n d,vs[i]= .agg [.b n,.sl none (uL d)]/\ZW k d/\zi n d=cf l i:=by
 obtain ⟨n,d,e,hz,hx⟩:=h.get i hi;exact ⟨n,d,e,hz,hx⟩
attribute [local simp] zv V.fits fillOk fillV Z_eq
def smR (w:Nat) (M:List (Bool × List Nat)):Bool:=M.all fun p=>decide (p.2.length<=w)
def smB (n w:Nat) (Ms:List (List (Bool × List Nat))):Bool:=Ms.all fun M=>decide (M.length<=n) && smR w M
def mL (Ms:List (List (Bool × List Nat))):List V:=Ms.map fun M=>.sl (some 2) (zL M)
theorem smB_false {n w:Nat} {Ms:List (List (Bool × List Nat))} {M:List (Bool × List Nat)} (hM:M∈Ms) (h:(decide (M.length<=n) && smR w M)=false):smB n w Ms=false:=by
 rw [smB,List.all_eq_false];exact ⟨M,hM,by rw [h]; simp⟩
theorem smB_snoc {n w:Nat} {Ms:List (List (Bool × List Nat))} {M:List (Bool × List Nat)} (h:smB n w Ms=true) (h1:M.length<=n) (h2:smR w M=true):smB n w (Ms++[M])=true:=by
 rw [smB] at h ⊢;rw [List.all_append,h];simp [h1,h2]
theorem smR_snoc {w:Nat} {M:List (Bool × List Nat)} {p:Bool × List Nat} (h:smR w M=true) (h1:p.2.length<=w):smR w (M++[p])=true:=by
 rw [smR] at h ⊢;rw [List.all_append,h];simp [h1]
def Sml (l:List Int):Prop:=∀ x∈l,-9223372036854775808<=x/\x<=9223372036854775807
instance (l:List Int):Decidable (Sml l):=inferInstanceAs (Decidable (∀ x∈l,_))
def exV (x y:Int):Int:=if y=0 then 0 else if x%y=0 then x / y else 0
theorem exactR_exV (x y:Int):∃ e:Int,exactR x y=[.pure (Z (exV x y)),.pure (.i .i64 e)]:=by
 unfold exactR exV;split
 . exact ⟨_,rfl⟩
 . split
   . exact ⟨_,rfl⟩
   . exact ⟨_,rfl⟩
end Go.Vw
