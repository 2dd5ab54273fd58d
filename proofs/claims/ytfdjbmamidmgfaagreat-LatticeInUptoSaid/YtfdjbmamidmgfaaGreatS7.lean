/- The slim forms of functions, written by a program; each is checked by the kernel. -/
import Derived.Test.YtfdjbmamidmgfaaGreatVB
import Derived.Test.YtfdjbmamidmgfaaGreatProg
import Derived.KernelRfl
