/- Codes written out. Part 6. -/
import Derived.Test.YtimgjgookgenoaaGreatDoorLA
import Derived.Test.YtimgjgookgenoaaGreatDoorProg
set_option linter.unusedVariables false
set_option linter.unusedSimpArgs false
set_option linter.unusedSectionVars false
namespace Go.Zw
open Go.Proofs
set_option maxRecDepth 1000000
set_option maxHeartbeats 40000000
noncomputable def F9_5 : BT Func := (.node 69 Tryz.f69 (.node 67 Tryz.f67 (.node 66 Tryz.f66 (.node 65 Tryz.f65 .nil .nil) .nil) (.node 68 Tryz.f68 .nil .nil)) (.node 73 Tryz.f73 (.node 72 Tryz.f72 (.node 70 Tryz.f70 .nil .nil) .nil) (.node 74 Tryz.f74 .nil .nil)))
noncomputable def l9_5 : {t : BT (Option T3) // F9_5.map (yslimF Tryz.prog) = t} := by
  refine ⟨?a, ?b⟩
  rotate_left
  · conv => lhs; reduce
noncomputable def F9_17 : BT Func := (.node 221 Tryz.f221 (.node 219 Tryz.f219 (.node 218 Tryz.f218 (.node 217 Tryz.f217 .nil .nil) .nil) (.node 220 Tryz.f220 .nil .nil)) (.node 224 Tryz.f224 (.node 223 Tryz.f223 (.node 222 Tryz.f222 .nil .nil) .nil) (.node 229 Tryz.f229 .nil .nil)))
noncomputable def l9_17 : {t : BT (Option T3) // F9_17.map (yslimF Tryz.prog) = t} := by
  refine ⟨?a, ?b⟩
  rotate_left
  · conv => lhs; reduce
noncomputable def F9_29 : BT Func := (.node 424 Tryz.f424 (.node 422 Tryz.f422 (.node 421 Tryz.f421 (.node 420 Tryz.f420 .nil .nil) .nil) (.node 423 Tryz.f423 .nil .nil)) (.node 432 Tryz.f432 (.node 431 Tryz.f431 (.node 430 Tryz.f430 .nil .nil) .nil) (.node 433 Tryz.f433 .nil .nil)))
noncomputable def l9_29 : {t : BT (Option T3) // F9_29.map (yslimF Tryz.prog) = t} := by
  refine ⟨?a, ?b⟩
  rotate_left
  · conv => lhs; reduce
attribute [local irreducible] cas8 wPick wBin wEqb wNot wNeg wConv wLoad1 wLoad wStore1 wStore wIdx wLen wLenS wIndex wExt wFAddr wField1 wField wMake wMkB wBox wAlloc wMkSl wBuild wMm wSlice wSliceS wAppend wCopy wCall wIsNil wIsNul wChk wIdxA wIdxV wSliceA wNew wPan wGuard aAdd aSub aMul aQuo aRem aAnd aOr aXor aShl aShr aAndNot aEql aNeq aLss aLeq aGtr aGeq sBad sAdd sEql sNeq kSkip kSeq kCond kBlock kLoop kExit kRet kDrawn kDfr kRf kBad noP entK
noncomputable def c9_5 : {t : BT CT // l9_5.val.map (stg (entK K9)) = t} := by
  refine ⟨?a, ?b⟩
  rotate_left
  · conv => lhs; reduce
theorem o9_5 : c9_5.val.all (CtOK Tryz.prog (entK K9)) := lit_at l9_5.property c9_5.property ⟨Tryz.func69, ⟨Tryz.func67, ⟨Tryz.func66, ⟨Tryz.func65, trivial, trivial⟩, trivial⟩, ⟨Tryz.func68, trivial, trivial⟩⟩, ⟨Tryz.func73, ⟨Tryz.func72, ⟨Tryz.func70, trivial, trivial⟩, trivial⟩, ⟨Tryz.func74, trivial, trivial⟩⟩⟩ (by kernel_rfl)
noncomputable def c9_17 : {t : BT CT // l9_17.val.map (stg (entK K9)) = t} := by
  refine ⟨?a, ?b⟩
  rotate_left
  · conv => lhs; reduce
theorem o9_17 : c9_17.val.all (CtOK Tryz.prog (entK K9)) := lit_at l9_17.property c9_17.property ⟨Tryz.func221, ⟨Tryz.func219, ⟨Tryz.func218, ⟨Tryz.func217, trivial, trivial⟩, trivial⟩, ⟨Tryz.func220, trivial, trivial⟩⟩, ⟨Tryz.func224, ⟨Tryz.func223, ⟨Tryz.func222, trivial, trivial⟩, trivial⟩, ⟨Tryz.func229, trivial, trivial⟩⟩⟩ (by kernel_rfl)
noncomputable def c9_29 : {t : BT CT // l9_29.val.map (stg (entK K9)) = t} := by
  refine ⟨?a, ?b⟩
  rotate_left
  · conv => lhs; reduce
theorem o9_29 : c9_29.val.all (CtOK Tryz.prog (entK K9)) := lit_at l9_29.property c9_29.property ⟨Tryz.func424, ⟨Tryz.func422, ⟨Tryz.func421, ⟨Tryz.func420, trivial, trivial⟩, trivial⟩, ⟨Tryz.func423, trivial, trivial⟩⟩, ⟨Tryz.func432, ⟨Tryz.func431, ⟨Tryz.func430, trivial, trivial⟩, trivial⟩, ⟨Tryz.func433, trivial, trivial⟩⟩⟩ (by kernel_rfl)
end Go.Zw
