/- The slim forms of functions, written by a program; each is checked by the kernel. -/
import Derived.Test.YtfdjbmamidmgfaaGreatVB
import Derived.Test.YtfdjbmamidmgfaaGreatProg
import Derived.KernelRfl
set_option maxRecDepth 100000
namespace Go.Vw
open Go.Proofs
abbrev f_ref10_Of : Nat := 69
def sc_ref10_Of : SC := (Sr [Oo 2 (.nilSl 28 (some 2))] (Sr [Oo 3 (.nilSl 28 (some 2))] (.seq (Sr [Oo 4 (.mv (kI 0))] (.block 0 (.loop (.seq (Sr [Om 5 4, Om 6 0, Oo 7 (.len .false (.t 6)), Oo 8 (.bin .lss (.t 5) (.t 7))] (Sx 8 0)) (.seq (.block 1 (.reg [Om 11 3, Om 12 0, Om 13 4, Oo 14 (.indexAddr none (.t 12) (.t 13)), Oo 15 (.load none (.t 14)), Oo 16 (.call (.f 65) [.t 15]), Oo 17 (.mkSl 28 (some 2) [.t 16]), Oo 18 (.append 28 (some 2) 32 (.t 11) (.t 17)), Om 3 18])) (.reg [Om 9 4, Oo 10 (.bin .add (.t 9) (kI 1)), Om 4 10])))))) (Sr [Om 19 3, Oo 20 (.call (.f 14) [.t 19]), Om 2 20] .ret))))
theorem ok_ref10_Of : slimF Tryz.prog Tryz.f69 = some (21, sc_ref10_Of, [(.tmp 2)]) := by kernel_rfl
end Go.Vw
