/- Codes written out. Part 8. -/
import Derived.Test.YtimgjgookgenoaaGreatDoorLA
import Derived.Test.YtimgjgookgenoaaGreatDoorProg
set_option linter.unusedVariables false
set_option linter.unusedSimpArgs false
set_option linter.unusedSectionVars false
namespace Go.Zw
open Go.Proofs
set_option maxRecDepth 1000000
set_option maxHeartbeats 40000000
noncomputable def F9_7 : BT Func := (.node 92 Tryz.f92 (.node 90 Tryz.f90 (.node 89 Tryz.f89 (.node 87 Tryz.f87 .nil .nil) .nil) (.node 91 Tryz.f91 .nil .nil)) (.node 95 Tryz.f95 (.node 94 Tryz.f94 (.node 93 Tryz.f93 .nil .nil) .nil) (.node 96 Tryz.f96 .nil .nil)))
noncomputable def l9_7 : {t : BT (Option T3) // F9_7.map (yslimF Tryz.prog) = t} := by
  refine ⟨?a, ?b⟩
  rotate_left
  · conv => lhs; reduce
noncomputable def F9_19 : BT Func := (.node 252 Tryz.f252 (.node 248 Tryz.f248 (.node 247 Tryz.f247 (.node 246 Tryz.f246 .nil .nil) .nil) (.node 249 Tryz.f249 .nil .nil)) (.node 259 Tryz.f259 (.node 258 Tryz.f258 (.node 254 Tryz.f254 .nil .nil) .nil) (.node 260 Tryz.f260 .nil .nil)))
noncomputable def l9_19 : {t : BT (Option T3) // F9_19.map (yslimF Tryz.prog) = t} := by
  refine ⟨?a, ?b⟩
  rotate_left
  · conv => lhs; reduce
noncomputable def F9_31 : BT Func := (.node 466 Tryz.f466 (.node 458 Tryz.f458 (.node 457 Tryz.f457 (.node 454 Tryz.f454 .nil .nil) .nil) (.node 459 Tryz.f459 .nil .nil)) (.node 469 Tryz.f469 (.node 468 Tryz.f468 (.node 467 Tryz.f467 .nil .nil) .nil) (.node 470 Tryz.f470 .nil .nil)))
noncomputable def l9_31 : {t : BT (Option T3) // F9_31.map (yslimF Tryz.prog) = t} := by
  refine ⟨?a, ?b⟩
  rotate_left
  · conv => lhs; reduce
attribute [local irreducible] cas8 wPick wBin wEqb wNot wNeg wConv wLoad1 wLoad wStore1 wStore wIdx wLen wLenS wIndex wExt wFAddr wField1 wField wMake wMkB wBox wAlloc wMkSl wBuild wMm wSlice wSliceS wAppend wCopy wCall wIsNil wIsNul wChk wIdxA wIdxV wSliceA wNew wPan wGuard aAdd aSub aMul aQuo aRem aAnd aOr aXor aShl aShr aAndNot aEql aNeq aLss aLeq aGtr aGeq sBad sAdd sEql sNeq kSkip kSeq kCond kBlock kLoop kExit kRet kDrawn kDfr kRf kBad noP entK
noncomputable def c9_7 : {t : BT CT // l9_7.val.map (stg (entK K9)) = t} := by
  refine ⟨?a, ?b⟩
  rotate_left
  · conv => lhs; reduce
theorem o9_7 : c9_7.val.all (CtOK Tryz.prog (entK K9)) := lit_at l9_7.property c9_7.property ⟨Tryz.func92, ⟨Tryz.func90, ⟨Tryz.func89, ⟨Tryz.func87, trivial, trivial⟩, trivial⟩, ⟨Tryz.func91, trivial, trivial⟩⟩, ⟨Tryz.func95, ⟨Tryz.func94, ⟨Tryz.func93, trivial, trivial⟩, trivial⟩, ⟨Tryz.func96, trivial, trivial⟩⟩⟩ (by kernel_rfl)
noncomputable def c9_19 : {t : BT CT // l9_19.val.map (stg (entK K9)) = t} := by
  refine ⟨?a, ?b⟩
  rotate_left
  · conv => lhs; reduce
theorem o9_19 : c9_19.val.all (CtOK Tryz.prog (entK K9)) := lit_at l9_19.property c9_19.property ⟨Tryz.func252, ⟨Tryz.func248, ⟨Tryz.func247, ⟨Tryz.func246, trivial, trivial⟩, trivial⟩, ⟨Tryz.func249, trivial, trivial⟩⟩, ⟨Tryz.func259, ⟨Tryz.func258, ⟨Tryz.func254, trivial, trivial⟩, trivial⟩, ⟨Tryz.func260, trivial, trivial⟩⟩⟩ (by kernel_rfl)
noncomputable def c9_31 : {t : BT CT // l9_31.val.map (stg (entK K9)) = t} := by
  refine ⟨?a, ?b⟩
  rotate_left
  · conv => lhs; reduce
theorem o9_31 : c9_31.val.all (CtOK Tryz.prog (entK K9)) := lit_at l9_31.property c9_31.property ⟨Tryz.func466, ⟨Tryz.func458, ⟨Tryz.func457, ⟨Tryz.func454, trivial, trivial⟩, trivial⟩, ⟨Tryz.func459, trivial, trivial⟩⟩, ⟨Tryz.func469, ⟨Tryz.func468, ⟨Tryz.func467, trivial, trivial⟩, trivial⟩, ⟨Tryz.func470, trivial, trivial⟩⟩⟩ (by kernel_rfl)
end Go.Zw
