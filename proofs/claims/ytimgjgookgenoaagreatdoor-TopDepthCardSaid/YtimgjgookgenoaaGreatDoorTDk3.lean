/- TopDepth at eight depths, from 24 on. -/
import Derived.Test.YtimgjgookgenoaaGreatDoorTDa
set_option linter.unusedVariables false
set_option linter.unusedSimpArgs false
set_option linter.unusedSectionVars false
namespace Go.Proofs.YtimgjgookgenoaaGreatDoor
open Go Go.Zw
set_option maxRecDepth 1000000
theorem r24 : topR 24 = .ok [.b true] [] [] := by kernel_rfl
theorem r25 : topR 25 = .ok [.b true] [] [] := by kernel_rfl
theorem r26 : topR 26 = .ok [.b true] [] [] := by kernel_rfl
theorem r27 : topR 27 = .ok [.b true] [] [] := by kernel_rfl
theorem r28 : topR 28 = .ok [.b true] [] [] := by kernel_rfl
theorem r29 : topR 29 = .ok [.b true] [] [] := by kernel_rfl
theorem r30 : topR 30 = .ok [.b true] [] [] := by kernel_rfl
theorem r31 : topR 31 = .ok [.b true] [] [] := by kernel_rfl
end Go.Proofs.YtimgjgookgenoaaGreatDoor
