/- Codes written out. Part 1. -/
import Derived.Test.YtimgjgookgenoaaGreatDoorLA
import Derived.Test.YtimgjgookgenoaaGreatDoorProg
set_option linter.unusedVariables false
set_option linter.unusedSimpArgs false
set_option linter.unusedSectionVars false
namespace Go.Zw
open Go.Proofs
set_option maxRecDepth 1000000
set_option maxHeartbeats 40000000
noncomputable def F9_0 : BT Func := (.node 9 Tryz.f9 (.node 7 Tryz.f7 (.node 6 Tryz.f6 (.node 4 Tryz.f4 .nil .nil) .nil) (.node 8 Tryz.f8 .nil .nil)) (.node 12 Tryz.f12 (.node 11 Tryz.f11 (.node 10 Tryz.f10 .nil .nil) .nil) (.node 13 Tryz.f13 .nil .nil)))
noncomputable def l9_0 : {t : BT (Option T3) // F9_0.map (yslimF Tryz.prog) = t} := by
  refine ⟨?a, ?b⟩
  rotate_left
  · conv => lhs; reduce
noncomputable def F9_12 : BT Func := (.node 161 Tryz.f161 (.node 159 Tryz.f159 (.node 155 Tryz.f155 (.node 154 Tryz.f154 .nil .nil) .nil) (.node 160 Tryz.f160 .nil .nil)) (.node 164 Tryz.f164 (.node 163 Tryz.f163 (.node 162 Tryz.f162 .nil .nil) .nil) (.node 165 Tryz.f165 .nil .nil)))
noncomputable def l9_12 : {t : BT (Option T3) // F9_12.map (yslimF Tryz.prog) = t} := by
  refine ⟨?a, ?b⟩
  rotate_left
  · conv => lhs; reduce
noncomputable def F9_24 : BT Func := (.node 343 Tryz.f343 (.node 341 Tryz.f341 (.node 340 Tryz.f340 .nil .nil) (.node 342 Tryz.f342 .nil .nil)) (.node 354 Tryz.f354 (.node 353 Tryz.f353 .nil .nil) .nil))
noncomputable def l9_24 : {t : BT (Option T3) // F9_24.map (yslimF Tryz.prog) = t} := by
  refine ⟨?a, ?b⟩
  rotate_left
  · conv => lhs; reduce
attribute [local irreducible] cas8 wPick wBin wEqb wNot wNeg wConv wLoad1 wLoad wStore1 wStore wIdx wLen wLenS wIndex wExt wFAddr wField1 wField wMake wMkB wBox wAlloc wMkSl wBuild wMm wSlice wSliceS wAppend wCopy wCall wIsNil wIsNul wChk wIdxA wIdxV wSliceA wNew wPan wGuard aAdd aSub aMul aQuo aRem aAnd aOr aXor aShl aShr aAndNot aEql aNeq aLss aLeq aGtr aGeq sBad sAdd sEql sNeq kSkip kSeq kCond kBlock kLoop kExit kRet kDrawn kDfr kRf kBad noP entK
noncomputable def c9_0 : {t : BT CT // l9_0.val.map (stg (entK K9)) = t} := by
  refine ⟨?a, ?b⟩
  rotate_left
  · conv => lhs; reduce
theorem o9_0 : c9_0.val.all (CtOK Tryz.prog (entK K9)) := lit_at l9_0.property c9_0.property ⟨Tryz.func9, ⟨Tryz.func7, ⟨Tryz.func6, ⟨Tryz.func4, trivial, trivial⟩, trivial⟩, ⟨Tryz.func8, trivial, trivial⟩⟩, ⟨Tryz.func12, ⟨Tryz.func11, ⟨Tryz.func10, trivial, trivial⟩, trivial⟩, ⟨Tryz.func13, trivial, trivial⟩⟩⟩ (by kernel_rfl)
noncomputable def c9_12 : {t : BT CT // l9_12.val.map (stg (entK K9)) = t} := by
  refine ⟨?a, ?b⟩
  rotate_left
  · conv => lhs; reduce
theorem o9_12 : c9_12.val.all (CtOK Tryz.prog (entK K9)) := lit_at l9_12.property c9_12.property ⟨Tryz.func161, ⟨Tryz.func159, ⟨Tryz.func155, ⟨Tryz.func154, trivial, trivial⟩, trivial⟩, ⟨Tryz.func160, trivial, trivial⟩⟩, ⟨Tryz.func164, ⟨Tryz.func163, ⟨Tryz.func162, trivial, trivial⟩, trivial⟩, ⟨Tryz.func165, trivial, trivial⟩⟩⟩ (by kernel_rfl)
noncomputable def c9_24 : {t : BT CT // l9_24.val.map (stg (entK K9)) = t} := by
  refine ⟨?a, ?b⟩
  rotate_left
  · conv => lhs; reduce
theorem o9_24 : c9_24.val.all (CtOK Tryz.prog (entK K9)) := lit_at l9_24.property c9_24.property ⟨Tryz.func343, ⟨Tryz.func341, ⟨Tryz.func340, trivial, trivial⟩, ⟨Tryz.func342, trivial, trivial⟩⟩, ⟨Tryz.func354, ⟨Tryz.func353, trivial, trivial⟩, trivial⟩⟩ (by kernel_rfl)
end Go.Zw
