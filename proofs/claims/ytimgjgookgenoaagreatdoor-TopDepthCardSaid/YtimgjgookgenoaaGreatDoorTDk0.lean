/- TopDepth at eight depths, from 0 on. -/
import Derived.Test.YtimgjgookgenoaaGreatDoorTDa
set_option linter.unusedVariables false
set_option linter.unusedSimpArgs false
set_option linter.unusedSectionVars false
namespace Go.Proofs.YtimgjgookgenoaaGreatDoor
open Go Go.Zw
set_option maxRecDepth 1000000
theorem r0 : topR 0 = .ok [.b true] [] [] := by kernel_rfl
theorem r1 : topR 1 = .ok [.b true] [] [] := by kernel_rfl
theorem r2 : topR 2 = .ok [.b true] [] [] := by kernel_rfl
theorem r3 : topR 3 = .ok [.b true] [] [] := by kernel_rfl
theorem r4 : topR 4 = .ok [.b true] [] [] := by kernel_rfl
theorem r5 : topR 5 = .ok [.b true] [] [] := by kernel_rfl
theorem r6 : topR 6 = .ok [.b true] [] [] := by kernel_rfl
theorem r7 : topR 7 = .ok [.b true] [] [] := by kernel_rfl
end Go.Proofs.YtimgjgookgenoaaGreatDoor
