/- Polynomials over the integers: quotients; the plain laws. -/
import Derived.Test.YtfdjbmamidmgfaaGreatPB
