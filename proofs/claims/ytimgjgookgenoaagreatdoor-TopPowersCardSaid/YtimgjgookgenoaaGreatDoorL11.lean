/- Codes written out. Part 12. -/
import Derived.Test.YtimgjgookgenoaaGreatDoorLA
import Derived.Test.YtimgjgookgenoaaGreatDoorProg
set_option linter.unusedVariables false
set_option linter.unusedSimpArgs false
set_option linter.unusedSectionVars false
namespace Go.Zw
open Go.Proofs
set_option maxRecDepth 1000000
set_option maxHeartbeats 40000000
noncomputable def F9_11 : BT Func := (.node 148 Tryz.f148 (.node 146 Tryz.f146 (.node 145 Tryz.f145 (.node 144 Tryz.f144 .nil .nil) .nil) (.node 147 Tryz.f147 .nil .nil)) (.node 151 Tryz.f151 (.node 150 Tryz.f150 (.node 149 Tryz.f149 .nil .nil) .nil) (.node 152 Tryz.f152 .nil .nil)))
noncomputable def l9_11 : {t : BT (Option T3) // F9_11.map (yslimF Tryz.prog) = t} := by
  refine ⟨?a, ?b⟩
  rotate_left
  · conv => lhs; reduce
noncomputable def F9_23 : BT Func := (.node 334 Tryz.f334 (.node 332 Tryz.f332 (.node 331 Tryz.f331 (.node 330 Tryz.f330 .nil .nil) .nil) (.node 333 Tryz.f333 .nil .nil)) (.node 337 Tryz.f337 (.node 336 Tryz.f336 (.node 335 Tryz.f335 .nil .nil) .nil) (.node 338 Tryz.f338 .nil .nil)))
noncomputable def l9_23 : {t : BT (Option T3) // F9_23.map (yslimF Tryz.prog) = t} := by
  refine ⟨?a, ?b⟩
  rotate_left
  · conv => lhs; reduce
attribute [local irreducible] cas8 wPick wBin wEqb wNot wNeg wConv wLoad1 wLoad wStore1 wStore wIdx wLen wLenS wIndex wExt wFAddr wField1 wField wMake wMkB wBox wAlloc wMkSl wBuild wMm wSlice wSliceS wAppend wCopy wCall wIsNil wIsNul wChk wIdxA wIdxV wSliceA wNew wPan wGuard aAdd aSub aMul aQuo aRem aAnd aOr aXor aShl aShr aAndNot aEql aNeq aLss aLeq aGtr aGeq sBad sAdd sEql sNeq kSkip kSeq kCond kBlock kLoop kExit kRet kDrawn kDfr kRf kBad noP entK
noncomputable def c9_11 : {t : BT CT // l9_11.val.map (stg (entK K9)) = t} := by
  refine ⟨?a, ?b⟩
  rotate_left
  · conv => lhs; reduce
theorem o9_11 : c9_11.val.all (CtOK Tryz.prog (entK K9)) := lit_at l9_11.property c9_11.property ⟨Tryz.func148, ⟨Tryz.func146, ⟨Tryz.func145, ⟨Tryz.func144, trivial, trivial⟩, trivial⟩, ⟨Tryz.func147, trivial, trivial⟩⟩, ⟨Tryz.func151, ⟨Tryz.func150, ⟨Tryz.func149, trivial, trivial⟩, trivial⟩, ⟨Tryz.func152, trivial, trivial⟩⟩⟩ (by kernel_rfl)
noncomputable def c9_23 : {t : BT CT // l9_23.val.map (stg (entK K9)) = t} := by
  refine ⟨?a, ?b⟩
  rotate_left
  · conv => lhs; reduce
theorem o9_23 : c9_23.val.all (CtOK Tryz.prog (entK K9)) := lit_at l9_23.property c9_23.property ⟨Tryz.func334, ⟨Tryz.func332, ⟨Tryz.func331, ⟨Tryz.func330, trivial, trivial⟩, trivial⟩, ⟨Tryz.func333, trivial, trivial⟩⟩, ⟨Tryz.func337, ⟨Tryz.func336, ⟨Tryz.func335, trivial, trivial⟩, trivial⟩, ⟨Tryz.func338, trivial, trivial⟩⟩⟩ (by kernel_rfl)
end Go.Zw
