/- Codes written out. Part 7. -/
import Derived.Test.YtimgjgookgenoaaGreatDoorLA
import Derived.Test.YtimgjgookgenoaaGreatDoorProg
set_option linter.unusedVariables false
set_option linter.unusedSimpArgs false
set_option linter.unusedSectionVars false
namespace Go.Zw
open Go.Proofs
set_option maxRecDepth 1000000
set_option maxHeartbeats 40000000
noncomputable def F9_6 : BT Func := (.node 80 Tryz.f80 (.node 78 Tryz.f78 (.node 77 Tryz.f77 (.node 76 Tryz.f76 .nil .nil) .nil) (.node 79 Tryz.f79 .nil .nil)) (.node 83 Tryz.f83 (.node 82 Tryz.f82 (.node 81 Tryz.f81 .nil .nil) .nil) (.node 85 Tryz.f85 .nil .nil)))
noncomputable def l9_6 : {t : BT (Option T3) // F9_6.map (yslimF Tryz.prog) = t} := by
  refine ⟨?a, ?b⟩
  rotate_left
  · conv => lhs; reduce
noncomputable def F9_18 : BT Func := (.node 235 Tryz.f235 (.node 233 Tryz.f233 (.node 232 Tryz.f232 (.node 231 Tryz.f231 .nil .nil) .nil) (.node 234 Tryz.f234 .nil .nil)) (.node 238 Tryz.f238 (.node 237 Tryz.f237 (.node 236 Tryz.f236 .nil .nil) .nil) (.node 243 Tryz.f243 .nil .nil)))
noncomputable def l9_18 : {t : BT (Option T3) // F9_18.map (yslimF Tryz.prog) = t} := by
  refine ⟨?a, ?b⟩
  rotate_left
  · conv => lhs; reduce
noncomputable def F9_30 : BT Func := (.node 439 Tryz.f439 (.node 437 Tryz.f437 (.node 436 Tryz.f436 (.node 435 Tryz.f435 .nil .nil) .nil) (.node 438 Tryz.f438 .nil .nil)) (.node 448 Tryz.f448 (.node 447 Tryz.f447 (.node 446 Tryz.f446 .nil .nil) .nil) (.node 449 Tryz.f449 .nil .nil)))
noncomputable def l9_30 : {t : BT (Option T3) // F9_30.map (yslimF Tryz.prog) = t} := by
  refine ⟨?a, ?b⟩
  rotate_left
  · conv => lhs; reduce
attribute [local irreducible] cas8 wPick wBin wEqb wNot wNeg wConv wLoad1 wLoad wStore1 wStore wIdx wLen wLenS wIndex wExt wFAddr wField1 wField wMake wMkB wBox wAlloc wMkSl wBuild wMm wSlice wSliceS wAppend wCopy wCall wIsNil wIsNul wChk wIdxA wIdxV wSliceA wNew wPan wGuard aAdd aSub aMul aQuo aRem aAnd aOr aXor aShl aShr aAndNot aEql aNeq aLss aLeq aGtr aGeq sBad sAdd sEql sNeq kSkip kSeq kCond kBlock kLoop kExit kRet kDrawn kDfr kRf kBad noP entK
noncomputable def c9_6 : {t : BT CT // l9_6.val.map (stg (entK K9)) = t} := by
  refine ⟨?a, ?b⟩
  rotate_left
  · conv => lhs; reduce
theorem o9_6 : c9_6.val.all (CtOK Tryz.prog (entK K9)) := lit_at l9_6.property c9_6.property ⟨Tryz.func80, ⟨Tryz.func78, ⟨Tryz.func77, ⟨Tryz.func76, trivial, trivial⟩, trivial⟩, ⟨Tryz.func79, trivial, trivial⟩⟩, ⟨Tryz.func83, ⟨Tryz.func82, ⟨Tryz.func81, trivial, trivial⟩, trivial⟩, ⟨Tryz.func85, trivial, trivial⟩⟩⟩ (by kernel_rfl)
noncomputable def c9_18 : {t : BT CT // l9_18.val.map (stg (entK K9)) = t} := by
  refine ⟨?a, ?b⟩
  rotate_left
  · conv => lhs; reduce
theorem o9_18 : c9_18.val.all (CtOK Tryz.prog (entK K9)) := lit_at l9_18.property c9_18.property ⟨Tryz.func235, ⟨Tryz.func233, ⟨Tryz.func232, ⟨Tryz.func231, trivial, trivial⟩, trivial⟩, ⟨Tryz.func234, trivial, trivial⟩⟩, ⟨Tryz.func238, ⟨Tryz.func237, ⟨Tryz.func236, trivial, trivial⟩, trivial⟩, ⟨Tryz.func243, trivial, trivial⟩⟩⟩ (by kernel_rfl)
noncomputable def c9_30 : {t : BT CT // l9_30.val.map (stg (entK K9)) = t} := by
  refine ⟨?a, ?b⟩
  rotate_left
  · conv => lhs; reduce
theorem o9_30 : c9_30.val.all (CtOK Tryz.prog (entK K9)) := lit_at l9_30.property c9_30.property ⟨Tryz.func439, ⟨Tryz.func437, ⟨Tryz.func436, ⟨Tryz.func435, trivial, trivial⟩, trivial⟩, ⟨Tryz.func438, trivial, trivial⟩⟩, ⟨Tryz.func448, ⟨Tryz.func447, ⟨Tryz.func446, trivial, trivial⟩, trivial⟩, ⟨Tryz.func449, trivial, trivial⟩⟩⟩ (by kernel_rfl)
end Go.Zw
