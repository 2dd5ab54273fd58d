/- The two functions of math/bits that have no body. -/
import Derived.Test.YtfdjbmamidmgfaaGreatVB
import Derived.Test.YtfdjbmamidmgfaaGreatProg
import Derived.KernelRfl
namespace Go.Vw
open Go.Proofs
theorem add64_spec (x y c:Nat) (hc:c<=1):Spec Tryz.prog 177 [.i .u64 x,.i .u64 y,.i .u64 c] (· =[.pure (.i .u64 ((x+y+c)%18446744073709551616:Nat)),.pure (.i .u64 ((x+y+c) / 18446744073709551616:Nat))]):=by
 have:=spec_extern (P:=Tryz.prog) (f:=177) (fn:=Tryz.f177) (e:=add64Entry) Tryz.func177 (by kernel_rfl) (by kernel_rfl) (by kernel_rfl) (by kernel_rfl)
  (args:=[.i .u64 x,.i .u64 y,.i .u64 c]) (rs:=[.i .u64 ((x+y+c)%18446744073709551616:Nat),.i .u64 ((x+y+c) / 18446744073709551616:Nat)]) rfl rfl (λw=>by
   have:=run_add64 (P:=Tryz.prog) x y c (by omega) (by omega) (by omega) (by omega) w
   simpa [V.toVal,packed] using this)
 simpa using this
theorem sub64_spec (x y c:Nat) (hc:c<=1):Spec Tryz.prog 182 [.i .u64 x,.i .u64 y,.i .u64 c] (· =[.pure (.i .u64 ((x+18446744073709551616-y-c)%18446744073709551616:Nat)),.pure (.i .u64 (if x<y+c then 1 else 0:Nat))]):=by
 have:=spec_extern (P:=Tryz.prog) (f:=182) (fn:=Tryz.f182) (e:=sub64Entry) Tryz.func182 (by kernel_rfl) (by kernel_rfl) (by kernel_rfl) (by kernel_rfl)
  (args:=[.i .u64 x,.i .u64 y,.i .u64 c]) (rs:=[.i .u64 ((x+18446744073709551616-y-c)%18446744073709551616:Nat),.i .u64 (if x<y+c then 1 else 0:Nat)]) rfl rfl (λw=>by
   have:=run_sub64 (P:=Tryz.prog) x y c hc w
   simpa [V.toVal,packed] using this)
 simpa using this
end Go.Vw
