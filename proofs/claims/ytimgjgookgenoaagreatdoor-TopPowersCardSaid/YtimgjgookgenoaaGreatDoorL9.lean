/- Codes written out. Part 10. -/
import Derived.Test.YtimgjgookgenoaaGreatDoorLA
import Derived.Test.YtimgjgookgenoaaGreatDoorProg
set_option linter.unusedVariables false
set_option linter.unusedSimpArgs false
set_option linter.unusedSectionVars false
namespace Go.Zw
open Go.Proofs
set_option maxRecDepth 1000000
set_option maxHeartbeats 40000000
noncomputable def F9_9 : BT Func := (.node 125 Tryz.f125 (.node 123 Tryz.f123 (.node 122 Tryz.f122 (.node 121 Tryz.f121 .nil .nil) .nil) (.node 124 Tryz.f124 .nil .nil)) (.node 129 Tryz.f129 (.node 128 Tryz.f128 (.node 126 Tryz.f126 .nil .nil) .nil) (.node 130 Tryz.f130 .nil .nil)))
noncomputable def l9_9 : {t : BT (Option T3) // F9_9.map (yslimF Tryz.prog) = t} := by
  refine ⟨?a, ?b⟩
  rotate_left
  · conv => lhs; reduce
noncomputable def F9_21 : BT Func := (.node 309 Tryz.f309 (.node 282 Tryz.f282 (.node 281 Tryz.f281 (.node 280 Tryz.f280 .nil .nil) .nil) (.node 308 Tryz.f308 .nil .nil)) (.node 312 Tryz.f312 (.node 311 Tryz.f311 (.node 310 Tryz.f310 .nil .nil) .nil) (.node 313 Tryz.f313 .nil .nil)))
noncomputable def l9_21 : {t : BT (Option T3) // F9_21.map (yslimF Tryz.prog) = t} := by
  refine ⟨?a, ?b⟩
  rotate_left
  · conv => lhs; reduce
noncomputable def F9_33 : BT Func := (.node 513 Tryz.f513 (.node 511 Tryz.f511 (.node 510 Tryz.f510 (.node 498 Tryz.f498 .nil .nil) .nil) (.node 512 Tryz.f512 .nil .nil)) (.node 521 Tryz.f521 (.node 520 Tryz.f520 .nil .nil) (.node 527 Tryz.f527 .nil .nil)))
noncomputable def l9_33 : {t : BT (Option T3) // F9_33.map (yslimF Tryz.prog) = t} := by
  refine ⟨?a, ?b⟩
  rotate_left
  · conv => lhs; reduce
attribute [local irreducible] cas8 wPick wBin wEqb wNot wNeg wConv wLoad1 wLoad wStore1 wStore wIdx wLen wLenS wIndex wExt wFAddr wField1 wField wMake wMkB wBox wAlloc wMkSl wBuild wMm wSlice wSliceS wAppend wCopy wCall wIsNil wIsNul wChk wIdxA wIdxV wSliceA wNew wPan wGuard aAdd aSub aMul aQuo aRem aAnd aOr aXor aShl aShr aAndNot aEql aNeq aLss aLeq aGtr aGeq sBad sAdd sEql sNeq kSkip kSeq kCond kBlock kLoop kExit kRet kDrawn kDfr kRf kBad noP entK
noncomputable def c9_9 : {t : BT CT // l9_9.val.map (stg (entK K9)) = t} := by
  refine ⟨?a, ?b⟩
  rotate_left
  · conv => lhs; reduce
theorem o9_9 : c9_9.val.all (CtOK Tryz.prog (entK K9)) := lit_at l9_9.property c9_9.property ⟨Tryz.func125, ⟨Tryz.func123, ⟨Tryz.func122, ⟨Tryz.func121, trivial, trivial⟩, trivial⟩, ⟨Tryz.func124, trivial, trivial⟩⟩, ⟨Tryz.func129, ⟨Tryz.func128, ⟨Tryz.func126, trivial, trivial⟩, trivial⟩, ⟨Tryz.func130, trivial, trivial⟩⟩⟩ (by kernel_rfl)
noncomputable def c9_21 : {t : BT CT // l9_21.val.map (stg (entK K9)) = t} := by
  refine ⟨?a, ?b⟩
  rotate_left
  · conv => lhs; reduce
theorem o9_21 : c9_21.val.all (CtOK Tryz.prog (entK K9)) := lit_at l9_21.property c9_21.property ⟨Tryz.func309, ⟨Tryz.func282, ⟨Tryz.func281, ⟨Tryz.func280, trivial, trivial⟩, trivial⟩, ⟨Tryz.func308, trivial, trivial⟩⟩, ⟨Tryz.func312, ⟨Tryz.func311, ⟨Tryz.func310, trivial, trivial⟩, trivial⟩, ⟨Tryz.func313, trivial, trivial⟩⟩⟩ (by kernel_rfl)
noncomputable def c9_33 : {t : BT CT // l9_33.val.map (stg (entK K9)) = t} := by
  refine ⟨?a, ?b⟩
  rotate_left
  · conv => lhs; reduce
theorem o9_33 : c9_33.val.all (CtOK Tryz.prog (entK K9)) := lit_at l9_33.property c9_33.property ⟨Tryz.func513, ⟨Tryz.func511, ⟨Tryz.func510, ⟨Tryz.func498, trivial, trivial⟩, trivial⟩, ⟨Tryz.func512, trivial, trivial⟩⟩, ⟨Tryz.func521, ⟨Tryz.func520, trivial, trivial⟩, ⟨Tryz.func527, trivial, trivial⟩⟩⟩ (by kernel_rfl)
end Go.Zw
