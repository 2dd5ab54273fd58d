/- TopDepth at eight depths, from 8 on. -/
import Derived.Test.YtimgjgookgenoaaGreatDoorTDa
set_option linter.unusedVariables false
set_option linter.unusedSimpArgs false
set_option linter.unusedSectionVars false
namespace Go.Proofs.YtimgjgookgenoaaGreatDoor
open Go Go.Zw
set_option maxRecDepth 1000000
theorem r8 : topR 8 = .ok [.b true] [] [] := by kernel_rfl
theorem r9 : topR 9 = .ok [.b true] [] [] := by kernel_rfl
theorem r10 : topR 10 = .ok [.b true] [] [] := by kernel_rfl
theorem r11 : topR 11 = .ok [.b true] [] [] := by kernel_rfl
theorem r12 : topR 12 = .ok [.b true] [] [] := by kernel_rfl
theorem r13 : topR 13 = .ok [.b true] [] [] := by kernel_rfl
theorem r14 : topR 14 = .ok [.b true] [] [] := by kernel_rfl
theorem r15 : topR 15 = .ok [.b true] [] [] := by kernel_rfl
end Go.Proofs.YtimgjgookgenoaaGreatDoor
