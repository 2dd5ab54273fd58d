/- Polynomials over the integers: the loops' plain laws. -/
import Derived.Test.YtfdjbmamidmgfaaGreatPC
