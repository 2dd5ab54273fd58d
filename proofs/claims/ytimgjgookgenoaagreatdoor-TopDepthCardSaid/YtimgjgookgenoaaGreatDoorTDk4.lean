/- TopDepth at eight depths, from 32 on. -/
import Derived.Test.YtimgjgookgenoaaGreatDoorTDa
set_option linter.unusedVariables false
set_option linter.unusedSimpArgs false
set_option linter.unusedSectionVars false
namespace Go.Proofs.YtimgjgookgenoaaGreatDoor
open Go Go.Zw
set_option maxRecDepth 1000000
theorem r32 : topR 32 = .ok [.b true] [] [] := by kernel_rfl
theorem r33 : topR 33 = .ok [.b true] [] [] := by kernel_rfl
theorem r34 : topR 34 = .ok [.b true] [] [] := by kernel_rfl
theorem r35 : topR 35 = .ok [.b true] [] [] := by kernel_rfl
theorem r36 : topR 36 = .ok [.b true] [] [] := by kernel_rfl
theorem r37 : topR 37 = .ok [.b true] [] [] := by kernel_rfl
theorem r38 : topR 38 = .ok [.b true] [] [] := by kernel_rfl
theorem r39 : topR 39 = .ok [.b true] [] [] := by kernel_rfl
end Go.Proofs.YtimgjgookgenoaaGreatDoor
