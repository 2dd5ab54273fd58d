/- The numbers of the rests, each made primitive, are at most determinants of the first pair. -/
import Derived.Test.YtfdjbmamidmgfaaGreatPO
set_option linter.unusedVariables false
namespace Go.Dt
open Go.Py
def smZ (f:Nat->Int):Nat->Int
 | 0=>0
 | n+1=>smZ f n+f n
def sgZ (j:Nat):Int:=if j%2=0 then 1 else -1
def detZ:Nat->(Nat->Nat->Int)->Int
 | 0,_=>1
 | n+1,M=>smZ (λj=>sgZ j*M 0 j*detZ n (λr c=>M (r+1) (sk j c))) (n+1)
theorem sm_cast (f:Nat->Int):∀ n,sm (λj=>((f j:Int):Rat)) n=((smZ f n:Int):Rat)
 | 0=>rfl
 | n+1=>by rw [sm,smZ,sm_cast f n]; push_cast; rfl
theorem sg_cast (j:Nat):sg j=((sgZ j:Int):Rat):=by unfold sg sgZ; split<;>rfl
theorem det_cast:∀ (n:Nat) (M:Nat->Nat->Int),det n (λr c=>((M r c:Int):Rat))=((detZ n M:Int):Rat)
 | 0,M=>rfl
 | n+1,M=>by
  rw [det,detZ,<-sm_cast];refine sm_congr λj _=>?_;rw [det_cast n,sg_cast];push_cast;rfl
theorem smZ_abs {f:Nat->Int} {X:Nat}:∀ {n:Nat},(∀ j,j<n->(f j).natAbs<=X)->(smZ f n).natAbs<=n*X
 | 0,_=>by simp [smZ]
 | n+1,h=>by
  have h1:=smZ_abs (f:=f) (X:=X) (n:=n) λj hj=>h j (by omega);have h2:=h n (by omega);have h3:=Int.natAbs_add_le (smZ f n) (f n);rw [smZ,Nat.add_mul,Nat.one_mul];omega
def dB (C:Nat):Nat->Nat
 | 0=>1
 | n+1=>(n+1)*(C*dB C n)
theorem detZ_abs {C:Nat}:∀ {n:Nat} {M:Nat->Nat->Int},(∀ r c,(M r c).natAbs<=C)->(detZ n M).natAbs<=dB C n
 | 0,M,_=>by simp [detZ,dB]
 | n+1,M,h=>by
  rw [detZ,dB];refine smZ_abs λj _=>?_;rw [Int.natAbs_mul,Int.natAbs_mul];have h1:(sgZ j).natAbs=1:=by unfold sgZ; split<;>rfl
  rw [h1,Nat.one_mul];exact Nat.mul_le_mul (h 0 j) (detZ_abs λr c=>h _ _)
theorem dB_le {C B:Nat}:∀ {n:Nat},n<=B->dB C n<=(B*C)^n
 | 0,_=>by simp [dB]
 | n+1,h=>by
  rw [dB,Nat.pow_succ,Nat.mul_comm ((B*C)^n),Nat.mul_assoc];exact Nat.mul_le_mul h (Nat.mul_le_mul_left _ (dB_le (by omega)))
end Go.Dt
