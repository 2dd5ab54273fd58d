/- Products in halves: plain laws. -/
import Derived.Test.YtfdjbmamidmgfaaGreatNA
set_option linter.unusedVariables false
namespace Go.Nm
theorem kara {a0 a1 b0 b1 P Q:Nat} (hQ:Q=P*P):a0*b0+P*((a0+a1)*(b0+b1)-a0*b0-a1*b1)+Q*(a1*b1)=(a0+P*a1)*(b0+P*b1):=by
 subst hQ;have e:(a0+a1)*(b0+b1)-a0*b0-a1*b1=a0*b1+a1*b0:=by
  rw [Nat.add_mul,Nat.mul_add,Nat.mul_add]; omega
 rw [e];simp only [Nat.add_mul,Nat.mul_add,Nat.mul_assoc,Nat.mul_left_comm a1 P,Nat.mul_left_comm a0 P];omega
theorem kara_le {a0 a1 b0 b1:Nat}:a0*b0<=(a0+a1)*(b0+b1)/\a1*b1<=(a0+a1)*(b0+b1)-a0*b0:=by
 rw [Nat.add_mul,Nat.mul_add,Nat.mul_add]; omega
end Go.Nm
