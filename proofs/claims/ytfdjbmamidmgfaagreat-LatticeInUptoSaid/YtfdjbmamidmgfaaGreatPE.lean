/- Polynomials over the integers: rests of so many times a polynomial, common divisors; the plain laws. -/
import Derived.Test.YtfdjbmamidmgfaaGreatPD
