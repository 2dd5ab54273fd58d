/- The slim forms of functions, written by a program; each is checked by the kernel. -/
import Derived.Test.YtelkndcchjhgcaaGreatVB
import Derived.Test.YtelkndcchjhgcaaGreatProg
import Derived.KernelRfl
import Derived.Test.YtelkndcchjhgcaaGreatS6
import Derived.Test.YtelkndcchjhgcaaGreatS7
set_option maxRecDepth 100000
namespace Go.Vw
open Go.Proofs

end Go.Vw
