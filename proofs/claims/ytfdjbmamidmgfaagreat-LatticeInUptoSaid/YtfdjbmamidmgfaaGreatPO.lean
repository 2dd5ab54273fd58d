/- The resultant: what it is, and when it is nothing. -/
import Derived.Test.YtfdjbmamidmgfaaGreatPN
