/- Primes. -/
import Derived.Test.YtfdjbmamidmgfaaGreatMF
import Derived.Test.YtfdjbmamidmgfaaGreatS4
import Derived.Test.YtfdjbmamidmgfaaGreatME
import Derived.Test.YtfdjbmamidmgfaaGreatS5
