/- How an argument of type api.Int (a sign and a row of limbs) is read. It names no program. -/
import Derived.Test.YtfdjbmamidmgfaaGreatL1
import Derived.RowKit
