/- Codes written out. Part 3. -/
import Derived.Test.YtimgjgookgenoaaGreatDoorLA
import Derived.Test.YtimgjgookgenoaaGreatDoorProg
set_option linter.unusedVariables false
set_option linter.unusedSimpArgs false
set_option linter.unusedSectionVars false
namespace Go.Zw
open Go.Proofs
set_option maxRecDepth 1000000
set_option maxHeartbeats 40000000
noncomputable def F9_2 : BT Func := (.node 32 Tryz.f32 (.node 30 Tryz.f30 (.node 29 Tryz.f29 (.node 28 Tryz.f28 .nil .nil) .nil) (.node 31 Tryz.f31 .nil .nil)) (.node 35 Tryz.f35 (.node 34 Tryz.f34 (.node 33 Tryz.f33 .nil .nil) .nil) (.node 36 Tryz.f36 .nil .nil)))
noncomputable def l9_2 : {t : BT (Option T3) // F9_2.map (yslimF Tryz.prog) = t} := by
  refine ⟨?a, ?b⟩
  rotate_left
  · conv => lhs; reduce
noncomputable def F9_14 : BT Func := (.node 184 Tryz.f184 (.node 182 Tryz.f182 (.node 181 Tryz.f181 (.node 180 Tryz.f180 .nil .nil) .nil) (.node 183 Tryz.f183 .nil .nil)) (.node 187 Tryz.f187 (.node 186 Tryz.f186 (.node 185 Tryz.f185 .nil .nil) .nil) (.node 188 Tryz.f188 .nil .nil)))
noncomputable def l9_14 : {t : BT (Option T3) // F9_14.map (yslimF Tryz.prog) = t} := by
  refine ⟨?a, ?b⟩
  rotate_left
  · conv => lhs; reduce
noncomputable def F9_26 : BT Func := (.node 375 Tryz.f375 (.node 368 Tryz.f368 (.node 365 Tryz.f365 (.node 359 Tryz.f359 .nil .nil) .nil) (.node 369 Tryz.f369 .nil .nil)) (.node 378 Tryz.f378 (.node 377 Tryz.f377 (.node 376 Tryz.f376 .nil .nil) .nil) (.node 379 Tryz.f379 .nil .nil)))
noncomputable def l9_26 : {t : BT (Option T3) // F9_26.map (yslimF Tryz.prog) = t} := by
  refine ⟨?a, ?b⟩
  rotate_left
  · conv => lhs; reduce
attribute [local irreducible] cas8 wPick wBin wEqb wNot wNeg wConv wLoad1 wLoad wStore1 wStore wIdx wLen wLenS wIndex wExt wFAddr wField1 wField wMake wMkB wBox wAlloc wMkSl wBuild wMm wSlice wSliceS wAppend wCopy wCall wIsNil wIsNul wChk wIdxA wIdxV wSliceA wNew wPan wGuard aAdd aSub aMul aQuo aRem aAnd aOr aXor aShl aShr aAndNot aEql aNeq aLss aLeq aGtr aGeq sBad sAdd sEql sNeq kSkip kSeq kCond kBlock kLoop kExit kRet kDrawn kDfr kRf kBad noP entK
noncomputable def c9_2 : {t : BT CT // l9_2.val.map (stg (entK K9)) = t} := by
  refine ⟨?a, ?b⟩
  rotate_left
  · conv => lhs; reduce
theorem o9_2 : c9_2.val.all (CtOK Tryz.prog (entK K9)) := lit_at l9_2.property c9_2.property ⟨Tryz.func32, ⟨Tryz.func30, ⟨Tryz.func29, ⟨Tryz.func28, trivial, trivial⟩, trivial⟩, ⟨Tryz.func31, trivial, trivial⟩⟩, ⟨Tryz.func35, ⟨Tryz.func34, ⟨Tryz.func33, trivial, trivial⟩, trivial⟩, ⟨Tryz.func36, trivial, trivial⟩⟩⟩ (by kernel_rfl)
noncomputable def c9_14 : {t : BT CT // l9_14.val.map (stg (entK K9)) = t} := by
  refine ⟨?a, ?b⟩
  rotate_left
  · conv => lhs; reduce
theorem o9_14 : c9_14.val.all (CtOK Tryz.prog (entK K9)) := lit_at l9_14.property c9_14.property ⟨Tryz.func184, ⟨Tryz.func182, ⟨Tryz.func181, ⟨Tryz.func180, trivial, trivial⟩, trivial⟩, ⟨Tryz.func183, trivial, trivial⟩⟩, ⟨Tryz.func187, ⟨Tryz.func186, ⟨Tryz.func185, trivial, trivial⟩, trivial⟩, ⟨Tryz.func188, trivial, trivial⟩⟩⟩ (by kernel_rfl)
noncomputable def c9_26 : {t : BT CT // l9_26.val.map (stg (entK K9)) = t} := by
  refine ⟨?a, ?b⟩
  rotate_left
  · conv => lhs; reduce
theorem o9_26 : c9_26.val.all (CtOK Tryz.prog (entK K9)) := lit_at l9_26.property c9_26.property ⟨Tryz.func375, ⟨Tryz.func368, ⟨Tryz.func365, ⟨Tryz.func359, trivial, trivial⟩, trivial⟩, ⟨Tryz.func369, trivial, trivial⟩⟩, ⟨Tryz.func378, ⟨Tryz.func377, ⟨Tryz.func376, trivial, trivial⟩, trivial⟩, ⟨Tryz.func379, trivial, trivial⟩⟩⟩ (by kernel_rfl)
end Go.Zw
