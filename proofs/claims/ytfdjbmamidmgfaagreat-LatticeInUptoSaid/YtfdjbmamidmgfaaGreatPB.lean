/- Polynomials over the integers: shifts, contents, quotients; the plain laws. -/
import Derived.Test.YtfdjbmamidmgfaaGreatPA
