/- Polynomials over the integers: a shift made in place; the plain laws. -/
import Derived.Test.YtfdjbmamidmgfaaGreatPD
