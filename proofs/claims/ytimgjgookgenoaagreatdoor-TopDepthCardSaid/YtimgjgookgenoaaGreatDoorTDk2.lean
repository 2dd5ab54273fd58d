/- TopDepth at eight depths, from 16 on. -/
import Derived.Test.YtimgjgookgenoaaGreatDoorTDa
set_option linter.unusedVariables false
set_option linter.unusedSimpArgs false
set_option linter.unusedSectionVars false
namespace Go.Proofs.YtimgjgookgenoaaGreatDoor
open Go Go.Zw
set_option maxRecDepth 1000000
theorem r16 : topR 16 = .ok [.b true] [] [] := by kernel_rfl
theorem r17 : topR 17 = .ok [.b true] [] [] := by kernel_rfl
theorem r18 : topR 18 = .ok [.b true] [] [] := by kernel_rfl
theorem r19 : topR 19 = .ok [.b true] [] [] := by kernel_rfl
theorem r20 : topR 20 = .ok [.b true] [] [] := by kernel_rfl
theorem r21 : topR 21 = .ok [.b true] [] [] := by kernel_rfl
theorem r22 : topR 22 = .ok [.b true] [] [] := by kernel_rfl
theorem r23 : topR 23 = .ok [.b true] [] [] := by kernel_rfl
end Go.Proofs.YtimgjgookgenoaaGreatDoor
