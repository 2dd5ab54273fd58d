/- The slim forms of functions, written by a program; each is checked by the kernel. -/
import Derived.Test.YtfdjbmamidmgfaaGreatVB
import Derived.Test.YtfdjbmamidmgfaaGreatProg
import Derived.KernelRfl
import Derived.Test.YtfdjbmamidmgfaaGreatS6
import Derived.Test.YtfdjbmamidmgfaaGreatS7
import Derived.Test.YtfdjbmamidmgfaaGreatS8
