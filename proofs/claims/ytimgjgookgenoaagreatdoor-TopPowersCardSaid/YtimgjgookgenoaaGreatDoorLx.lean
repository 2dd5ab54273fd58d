/- Codes written out. Part 5. -/
import Derived.Test.YtimgjgookgenoaaGreatDoorLA
import Derived.Test.YtimgjgookgenoaaGreatDoorProg
set_option linter.unusedVariables false
set_option linter.unusedSimpArgs false
set_option linter.unusedSectionVars false
namespace Go.Zw
open Go.Proofs
set_option maxRecDepth 1000000
set_option maxHeartbeats 40000000
noncomputable def F9_4 : BT Func := (.node 56 Tryz.f56 (.node 54 Tryz.f54 (.node 51 Tryz.f51 (.node 49 Tryz.f49 .nil .nil) .nil) (.node 55 Tryz.f55 .nil .nil)) (.node 60 Tryz.f60 (.node 58 Tryz.f58 (.node 57 Tryz.f57 .nil .nil) .nil) (.node 62 Tryz.f62 .nil .nil)))
noncomputable def l9_4 : {t : BT (Option T3) // F9_4.map (yslimF Tryz.prog) = t} := by
  refine ⟨?a, ?b⟩
  rotate_left
  · conv => lhs; reduce
noncomputable def F9_16 : BT Func := (.node 215 Tryz.f215 (.node 214 Tryz.f214 .nil .nil) .nil)
noncomputable def l9_16 : {t : BT (Option T3) // F9_16.map (yslimF Tryz.prog) = t} := by
  refine ⟨?a, ?b⟩
  rotate_left
  · conv => lhs; reduce
noncomputable def F9_28 : BT Func := (.node 414 Tryz.f414 (.node 412 Tryz.f412 (.node 411 Tryz.f411 (.node 391 Tryz.f391 .nil .nil) .nil) (.node 413 Tryz.f413 .nil .nil)) (.node 417 Tryz.f417 (.node 416 Tryz.f416 (.node 415 Tryz.f415 .nil .nil) .nil) (.node 418 Tryz.f418 .nil .nil)))
noncomputable def l9_28 : {t : BT (Option T3) // F9_28.map (yslimF Tryz.prog) = t} := by
  refine ⟨?a, ?b⟩
  rotate_left
  · conv => lhs; reduce
attribute [local irreducible] cas8 wPick wBin wEqb wNot wNeg wConv wLoad1 wLoad wStore1 wStore wIdx wLen wLenS wIndex wExt wFAddr wField1 wField wMake wMkB wBox wAlloc wMkSl wBuild wMm wSlice wSliceS wAppend wCopy wCall wIsNil wIsNul wChk wIdxA wIdxV wSliceA wNew wPan wGuard aAdd aSub aMul aQuo aRem aAnd aOr aXor aShl aShr aAndNot aEql aNeq aLss aLeq aGtr aGeq sBad sAdd sEql sNeq kSkip kSeq kCond kBlock kLoop kExit kRet kDrawn kDfr kRf kBad noP entK
noncomputable def c9_4 : {t : BT CT // l9_4.val.map (stg (entK K9)) = t} := by
  refine ⟨?a, ?b⟩
  rotate_left
  · conv => lhs; reduce
theorem o9_4 : c9_4.val.all (CtOK Tryz.prog (entK K9)) := lit_at l9_4.property c9_4.property ⟨Tryz.func56, ⟨Tryz.func54, ⟨Tryz.func51, ⟨Tryz.func49, trivial, trivial⟩, trivial⟩, ⟨Tryz.func55, trivial, trivial⟩⟩, ⟨Tryz.func60, ⟨Tryz.func58, ⟨Tryz.func57, trivial, trivial⟩, trivial⟩, ⟨Tryz.func62, trivial, trivial⟩⟩⟩ (by kernel_rfl)
noncomputable def c9_16 : {t : BT CT // l9_16.val.map (stg (entK K9)) = t} := by
  refine ⟨?a, ?b⟩
  rotate_left
  · conv => lhs; reduce
theorem o9_16 : c9_16.val.all (CtOK Tryz.prog (entK K9)) := lit_at l9_16.property c9_16.property ⟨Tryz.func215, ⟨Tryz.func214, trivial, trivial⟩, trivial⟩ (by kernel_rfl)
noncomputable def c9_28 : {t : BT CT // l9_28.val.map (stg (entK K9)) = t} := by
  refine ⟨?a, ?b⟩
  rotate_left
  · conv => lhs; reduce
theorem o9_28 : c9_28.val.all (CtOK Tryz.prog (entK K9)) := lit_at l9_28.property c9_28.property ⟨Tryz.func414, ⟨Tryz.func412, ⟨Tryz.func411, ⟨Tryz.func391, trivial, trivial⟩, trivial⟩, ⟨Tryz.func413, trivial, trivial⟩⟩, ⟨Tryz.func417, ⟨Tryz.func416, ⟨Tryz.func415, trivial, trivial⟩, trivial⟩, ⟨Tryz.func418, trivial, trivial⟩⟩⟩ (by kernel_rfl)
end Go.Zw
