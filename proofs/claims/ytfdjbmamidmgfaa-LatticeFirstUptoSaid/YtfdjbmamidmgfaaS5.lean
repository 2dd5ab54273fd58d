/- The slim forms of functions, written by a program; each is checked by the kernel. -/
import Derived.Test.YtfdjbmamidmgfaaVB
import Derived.Test.YtfdjbmamidmgfaaProg
import Derived.KernelRfl
import Derived.Test.YtfdjbmamidmgfaaS6
import Derived.Test.YtfdjbmamidmgfaaS7
import Derived.Test.YtfdjbmamidmgfaaS8
set_option maxRecDepth 100000
namespace Go.Vw
open Go.Proofs
end Go.Vw
