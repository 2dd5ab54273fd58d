/- TopDepth at eight depths, from 56 on. -/
import Derived.Test.YtimgjgookgenoaaGreatDoorTDa
set_option linter.unusedVariables false
set_option linter.unusedSimpArgs false
set_option linter.unusedSectionVars false
namespace Go.Proofs.YtimgjgookgenoaaGreatDoor
open Go Go.Zw
set_option maxRecDepth 1000000
theorem r56 : topR 56 = .ok [.b true] [] [] := by kernel_rfl
theorem r57 : topR 57 = .ok [.b true] [] [] := by kernel_rfl
theorem r58 : topR 58 = .ok [.b true] [] [] := by kernel_rfl
theorem r59 : topR 59 = .ok [.b true] [] [] := by kernel_rfl
theorem r60 : topR 60 = .ok [.b true] [] [] := by kernel_rfl
theorem r61 : topR 61 = .ok [.b true] [] [] := by kernel_rfl
theorem r62 : topR 62 = .ok [.b true] [] [] := by kernel_rfl
theorem r63 : topR 63 = .ok [.b true] [] [] := by kernel_rfl
end Go.Proofs.YtimgjgookgenoaaGreatDoor
