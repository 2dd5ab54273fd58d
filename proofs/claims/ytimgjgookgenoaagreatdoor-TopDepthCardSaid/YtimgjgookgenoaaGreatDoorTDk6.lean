/- TopDepth at eight depths, from 48 on. -/
import Derived.Test.YtimgjgookgenoaaGreatDoorTDa
set_option linter.unusedVariables false
set_option linter.unusedSimpArgs false
set_option linter.unusedSectionVars false
namespace Go.Proofs.YtimgjgookgenoaaGreatDoor
open Go Go.Zw
set_option maxRecDepth 1000000
theorem r48 : topR 48 = .ok [.b true] [] [] := by kernel_rfl
theorem r49 : topR 49 = .ok [.b true] [] [] := by kernel_rfl
theorem r50 : topR 50 = .ok [.b true] [] [] := by kernel_rfl
theorem r51 : topR 51 = .ok [.b true] [] [] := by kernel_rfl
theorem r52 : topR 52 = .ok [.b true] [] [] := by kernel_rfl
theorem r53 : topR 53 = .ok [.b true] [] [] := by kernel_rfl
theorem r54 : topR 54 = .ok [.b true] [] [] := by kernel_rfl
theorem r55 : topR 55 = .ok [.b true] [] [] := by kernel_rfl
end Go.Proofs.YtimgjgookgenoaaGreatDoor
