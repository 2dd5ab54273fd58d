/- Codes written out. Part 2. -/
import Derived.Test.YtimgjgookgenoaaGreatDoorLA
import Derived.Test.YtimgjgookgenoaaGreatDoorProg
set_option linter.unusedVariables false
set_option linter.unusedSimpArgs false
set_option linter.unusedSectionVars false
namespace Go.Zw
open Go.Proofs
set_option maxRecDepth 1000000
set_option maxHeartbeats 40000000
noncomputable def F9_1 : BT Func := (.node 21 Tryz.f21 (.node 19 Tryz.f19 (.node 16 Tryz.f16 (.node 15 Tryz.f15 .nil .nil) .nil) (.node 20 Tryz.f20 .nil .nil)) (.node 25 Tryz.f25 (.node 24 Tryz.f24 (.node 23 Tryz.f23 .nil .nil) .nil) (.node 26 Tryz.f26 .nil .nil)))
noncomputable def l9_1 : {t : BT (Option T3) // F9_1.map (yslimF Tryz.prog) = t} := by
  refine ⟨?a, ?b⟩
  rotate_left
  · conv => lhs; reduce
noncomputable def F9_13 : BT Func := (.node 173 Tryz.f173 (.node 171 Tryz.f171 (.node 170 Tryz.f170 (.node 168 Tryz.f168 .nil .nil) .nil) (.node 172 Tryz.f172 .nil .nil)) (.node 177 Tryz.f177 (.node 176 Tryz.f176 (.node 175 Tryz.f175 .nil .nil) .nil) (.node 178 Tryz.f178 .nil .nil)))
noncomputable def l9_13 : {t : BT (Option T3) // F9_13.map (yslimF Tryz.prog) = t} := by
  refine ⟨?a, ?b⟩
  rotate_left
  · conv => lhs; reduce
noncomputable def F9_25 : BT Func := (.node 357 Tryz.f357 (.node 356 Tryz.f356 .nil .nil) .nil)
noncomputable def l9_25 : {t : BT (Option T3) // F9_25.map (yslimF Tryz.prog) = t} := by
  refine ⟨?a, ?b⟩
  rotate_left
  · conv => lhs; reduce
attribute [local irreducible] cas8 wPick wBin wEqb wNot wNeg wConv wLoad1 wLoad wStore1 wStore wIdx wLen wLenS wIndex wExt wFAddr wField1 wField wMake wMkB wBox wAlloc wMkSl wBuild wMm wSlice wSliceS wAppend wCopy wCall wIsNil wIsNul wChk wIdxA wIdxV wSliceA wNew wPan wGuard aAdd aSub aMul aQuo aRem aAnd aOr aXor aShl aShr aAndNot aEql aNeq aLss aLeq aGtr aGeq sBad sAdd sEql sNeq kSkip kSeq kCond kBlock kLoop kExit kRet kDrawn kDfr kRf kBad noP entK
noncomputable def c9_1 : {t : BT CT // l9_1.val.map (stg (entK K9)) = t} := by
  refine ⟨?a, ?b⟩
  rotate_left
  · conv => lhs; reduce
theorem o9_1 : c9_1.val.all (CtOK Tryz.prog (entK K9)) := lit_at l9_1.property c9_1.property ⟨Tryz.func21, ⟨Tryz.func19, ⟨Tryz.func16, ⟨Tryz.func15, trivial, trivial⟩, trivial⟩, ⟨Tryz.func20, trivial, trivial⟩⟩, ⟨Tryz.func25, ⟨Tryz.func24, ⟨Tryz.func23, trivial, trivial⟩, trivial⟩, ⟨Tryz.func26, trivial, trivial⟩⟩⟩ (by kernel_rfl)
noncomputable def c9_13 : {t : BT CT // l9_13.val.map (stg (entK K9)) = t} := by
  refine ⟨?a, ?b⟩
  rotate_left
  · conv => lhs; reduce
theorem o9_13 : c9_13.val.all (CtOK Tryz.prog (entK K9)) := lit_at l9_13.property c9_13.property ⟨Tryz.func173, ⟨Tryz.func171, ⟨Tryz.func170, ⟨Tryz.func168, trivial, trivial⟩, trivial⟩, ⟨Tryz.func172, trivial, trivial⟩⟩, ⟨Tryz.func177, ⟨Tryz.func176, ⟨Tryz.func175, trivial, trivial⟩, trivial⟩, ⟨Tryz.func178, trivial, trivial⟩⟩⟩ (by kernel_rfl)
noncomputable def c9_25 : {t : BT CT // l9_25.val.map (stg (entK K9)) = t} := by
  refine ⟨?a, ?b⟩
  rotate_left
  · conv => lhs; reduce
theorem o9_25 : c9_25.val.all (CtOK Tryz.prog (entK K9)) := lit_at l9_25.property c9_25.property ⟨Tryz.func357, ⟨Tryz.func356, trivial, trivial⟩, trivial⟩ (by kernel_rfl)
end Go.Zw
