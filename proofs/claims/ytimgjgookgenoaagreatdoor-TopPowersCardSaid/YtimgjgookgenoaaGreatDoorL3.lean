/- Codes written out. Part 4. -/
import Derived.Test.YtimgjgookgenoaaGreatDoorLA
import Derived.Test.YtimgjgookgenoaaGreatDoorProg
set_option linter.unusedVariables false
set_option linter.unusedSimpArgs false
set_option linter.unusedSectionVars false
namespace Go.Zw
open Go.Proofs
set_option maxRecDepth 1000000
set_option maxHeartbeats 40000000
noncomputable def F9_3 : BT Func := (.node 43 Tryz.f43 (.node 40 Tryz.f40 (.node 39 Tryz.f39 (.node 38 Tryz.f38 .nil .nil) .nil) (.node 42 Tryz.f42 .nil .nil)) (.node 46 Tryz.f46 (.node 45 Tryz.f45 (.node 44 Tryz.f44 .nil .nil) .nil) (.node 47 Tryz.f47 .nil .nil)))
noncomputable def l9_3 : {t : BT (Option T3) // F9_3.map (yslimF Tryz.prog) = t} := by
  refine ⟨?a, ?b⟩
  rotate_left
  · conv => lhs; reduce
noncomputable def F9_15 : BT Func := (.node 192 Tryz.f192 (.node 191 Tryz.f191 (.node 190 Tryz.f190 .nil .nil) .nil) (.node 211 Tryz.f211 (.node 210 Tryz.f210 .nil .nil) .nil))
noncomputable def l9_15 : {t : BT (Option T3) // F9_15.map (yslimF Tryz.prog) = t} := by
  refine ⟨?a, ?b⟩
  rotate_left
  · conv => lhs; reduce
noncomputable def F9_27 : BT Func := (.node 385 Tryz.f385 (.node 383 Tryz.f383 (.node 382 Tryz.f382 (.node 381 Tryz.f381 .nil .nil) .nil) (.node 384 Tryz.f384 .nil .nil)) (.node 388 Tryz.f388 (.node 387 Tryz.f387 (.node 386 Tryz.f386 .nil .nil) .nil) (.node 389 Tryz.f389 .nil .nil)))
noncomputable def l9_27 : {t : BT (Option T3) // F9_27.map (yslimF Tryz.prog) = t} := by
  refine ⟨?a, ?b⟩
  rotate_left
  · conv => lhs; reduce
attribute [local irreducible] cas8 wPick wBin wEqb wNot wNeg wConv wLoad1 wLoad wStore1 wStore wIdx wLen wLenS wIndex wExt wFAddr wField1 wField wMake wMkB wBox wAlloc wMkSl wBuild wMm wSlice wSliceS wAppend wCopy wCall wIsNil wIsNul wChk wIdxA wIdxV wSliceA wNew wPan wGuard aAdd aSub aMul aQuo aRem aAnd aOr aXor aShl aShr aAndNot aEql aNeq aLss aLeq aGtr aGeq sBad sAdd sEql sNeq kSkip kSeq kCond kBlock kLoop kExit kRet kDrawn kDfr kRf kBad noP entK
noncomputable def c9_3 : {t : BT CT // l9_3.val.map (stg (entK K9)) = t} := by
  refine ⟨?a, ?b⟩
  rotate_left
  · conv => lhs; reduce
theorem o9_3 : c9_3.val.all (CtOK Tryz.prog (entK K9)) := lit_at l9_3.property c9_3.property ⟨Tryz.func43, ⟨Tryz.func40, ⟨Tryz.func39, ⟨Tryz.func38, trivial, trivial⟩, trivial⟩, ⟨Tryz.func42, trivial, trivial⟩⟩, ⟨Tryz.func46, ⟨Tryz.func45, ⟨Tryz.func44, trivial, trivial⟩, trivial⟩, ⟨Tryz.func47, trivial, trivial⟩⟩⟩ (by kernel_rfl)
noncomputable def c9_15 : {t : BT CT // l9_15.val.map (stg (entK K9)) = t} := by
  refine ⟨?a, ?b⟩
  rotate_left
  · conv => lhs; reduce
theorem o9_15 : c9_15.val.all (CtOK Tryz.prog (entK K9)) := lit_at l9_15.property c9_15.property ⟨Tryz.func192, ⟨Tryz.func191, ⟨Tryz.func190, trivial, trivial⟩, trivial⟩, ⟨Tryz.func211, ⟨Tryz.func210, trivial, trivial⟩, trivial⟩⟩ (by kernel_rfl)
noncomputable def c9_27 : {t : BT CT // l9_27.val.map (stg (entK K9)) = t} := by
  refine ⟨?a, ?b⟩
  rotate_left
  · conv => lhs; reduce
theorem o9_27 : c9_27.val.all (CtOK Tryz.prog (entK K9)) := lit_at l9_27.property c9_27.property ⟨Tryz.func385, ⟨Tryz.func383, ⟨Tryz.func382, ⟨Tryz.func381, trivial, trivial⟩, trivial⟩, ⟨Tryz.func384, trivial, trivial⟩⟩, ⟨Tryz.func388, ⟨Tryz.func387, ⟨Tryz.func386, trivial, trivial⟩, trivial⟩, ⟨Tryz.func389, trivial, trivial⟩⟩⟩ (by kernel_rfl)
end Go.Zw
