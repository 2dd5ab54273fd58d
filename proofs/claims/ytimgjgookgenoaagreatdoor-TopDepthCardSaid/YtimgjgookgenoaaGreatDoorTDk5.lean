/- TopDepth at eight depths, from 40 on. -/
import Derived.Test.YtimgjgookgenoaaGreatDoorTDa
set_option linter.unusedVariables false
set_option linter.unusedSimpArgs false
set_option linter.unusedSectionVars false
namespace Go.Proofs.YtimgjgookgenoaaGreatDoor
open Go Go.Zw
set_option maxRecDepth 1000000
theorem r40 : topR 40 = .ok [.b true] [] [] := by kernel_rfl
theorem r41 : topR 41 = .ok [.b true] [] [] := by kernel_rfl
theorem r42 : topR 42 = .ok [.b true] [] [] := by kernel_rfl
theorem r43 : topR 43 = .ok [.b true] [] [] := by kernel_rfl
theorem r44 : topR 44 = .ok [.b true] [] [] := by kernel_rfl
theorem r45 : topR 45 = .ok [.b true] [] [] := by kernel_rfl
theorem r46 : topR 46 = .ok [.b true] [] [] := by kernel_rfl
theorem r47 : topR 47 = .ok [.b true] [] [] := by kernel_rfl
end Go.Proofs.YtimgjgookgenoaaGreatDoor
