/- Polynomials over the integers: the greatest common divisor; the plain laws. -/
import Derived.Test.YtfdjbmamidmgfaaGreatPE
