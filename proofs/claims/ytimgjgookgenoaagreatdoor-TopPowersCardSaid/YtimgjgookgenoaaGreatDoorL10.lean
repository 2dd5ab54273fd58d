/- Codes written out. Part 11. -/
import Derived.Test.YtimgjgookgenoaaGreatDoorLA
import Derived.Test.YtimgjgookgenoaaGreatDoorProg
set_option linter.unusedVariables false
set_option linter.unusedSimpArgs false
set_option linter.unusedSectionVars false
namespace Go.Zw
open Go.Proofs
set_option maxRecDepth 1000000
set_option maxHeartbeats 40000000
noncomputable def F9_10 : BT Func := (.node 138 Tryz.f138 (.node 135 Tryz.f135 (.node 134 Tryz.f134 (.node 132 Tryz.f132 .nil .nil) .nil) (.node 137 Tryz.f137 .nil .nil)) (.node 141 Tryz.f141 (.node 140 Tryz.f140 (.node 139 Tryz.f139 .nil .nil) .nil) (.node 142 Tryz.f142 .nil .nil)))
noncomputable def l9_10 : {t : BT (Option T3) // F9_10.map (yslimF Tryz.prog) = t} := by
  refine ⟨?a, ?b⟩
  rotate_left
  · conv => lhs; reduce
noncomputable def F9_22 : BT Func := (.node 319 Tryz.f319 (.node 317 Tryz.f317 (.node 316 Tryz.f316 (.node 315 Tryz.f315 .nil .nil) .nil) (.node 318 Tryz.f318 .nil .nil)) (.node 327 Tryz.f327 (.node 326 Tryz.f326 (.node 320 Tryz.f320 .nil .nil) .nil) (.node 328 Tryz.f328 .nil .nil)))
noncomputable def l9_22 : {t : BT (Option T3) // F9_22.map (yslimF Tryz.prog) = t} := by
  refine ⟨?a, ?b⟩
  rotate_left
  · conv => lhs; reduce
attribute [local irreducible] cas8 wPick wBin wEqb wNot wNeg wConv wLoad1 wLoad wStore1 wStore wIdx wLen wLenS wIndex wExt wFAddr wField1 wField wMake wMkB wBox wAlloc wMkSl wBuild wMm wSlice wSliceS wAppend wCopy wCall wIsNil wIsNul wChk wIdxA wIdxV wSliceA wNew wPan wGuard aAdd aSub aMul aQuo aRem aAnd aOr aXor aShl aShr aAndNot aEql aNeq aLss aLeq aGtr aGeq sBad sAdd sEql sNeq kSkip kSeq kCond kBlock kLoop kExit kRet kDrawn kDfr kRf kBad noP entK
noncomputable def c9_10 : {t : BT CT // l9_10.val.map (stg (entK K9)) = t} := by
  refine ⟨?a, ?b⟩
  rotate_left
  · conv => lhs; reduce
theorem o9_10 : c9_10.val.all (CtOK Tryz.prog (entK K9)) := lit_at l9_10.property c9_10.property ⟨Tryz.func138, ⟨Tryz.func135, ⟨Tryz.func134, ⟨Tryz.func132, trivial, trivial⟩, trivial⟩, ⟨Tryz.func137, trivial, trivial⟩⟩, ⟨Tryz.func141, ⟨Tryz.func140, ⟨Tryz.func139, trivial, trivial⟩, trivial⟩, ⟨Tryz.func142, trivial, trivial⟩⟩⟩ (by kernel_rfl)
noncomputable def c9_22 : {t : BT CT // l9_22.val.map (stg (entK K9)) = t} := by
  refine ⟨?a, ?b⟩
  rotate_left
  · conv => lhs; reduce
theorem o9_22 : c9_22.val.all (CtOK Tryz.prog (entK K9)) := lit_at l9_22.property c9_22.property ⟨Tryz.func319, ⟨Tryz.func317, ⟨Tryz.func316, ⟨Tryz.func315, trivial, trivial⟩, trivial⟩, ⟨Tryz.func318, trivial, trivial⟩⟩, ⟨Tryz.func327, ⟨Tryz.func326, ⟨Tryz.func320, trivial, trivial⟩, trivial⟩, ⟨Tryz.func328, trivial, trivial⟩⟩⟩ (by kernel_rfl)
end Go.Zw
