/- The row of subresultants: why its divisions leave no rest. -/
import Derived.Test.YtfdjbmamidmgfaaGreatPM
import Derived.Test.YtfdjbmamidmgfaaGreatPF
