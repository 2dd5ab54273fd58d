/- Codes written out. Part 9. -/
import Derived.Test.YtimgjgookgenoaaGreatDoorLA
import Derived.Test.YtimgjgookgenoaaGreatDoorProg
set_option linter.unusedVariables false
set_option linter.unusedSimpArgs false
set_option linter.unusedSectionVars false
namespace Go.Zw
open Go.Proofs
set_option maxRecDepth 1000000
set_option maxHeartbeats 40000000
noncomputable def F9_8 : BT Func := (.node 102 Tryz.f102 (.node 100 Tryz.f100 (.node 99 Tryz.f99 (.node 98 Tryz.f98 .nil .nil) .nil) (.node 101 Tryz.f101 .nil .nil)) (.node 118 Tryz.f118 (.node 104 Tryz.f104 (.node 103 Tryz.f103 .nil .nil) .nil) (.node 119 Tryz.f119 .nil .nil)))
noncomputable def l9_8 : {t : BT (Option T3) // F9_8.map (yslimF Tryz.prog) = t} := by
  refine ⟨?a, ?b⟩
  rotate_left
  · conv => lhs; reduce
noncomputable def F9_20 : BT Func := (.node 266 Tryz.f266 (.node 264 Tryz.f264 (.node 263 Tryz.f263 (.node 262 Tryz.f262 .nil .nil) .nil) (.node 265 Tryz.f265 .nil .nil)) (.node 269 Tryz.f269 (.node 268 Tryz.f268 (.node 267 Tryz.f267 .nil .nil) .nil) (.node 270 Tryz.f270 .nil .nil)))
noncomputable def l9_20 : {t : BT (Option T3) // F9_20.map (yslimF Tryz.prog) = t} := by
  refine ⟨?a, ?b⟩
  rotate_left
  · conv => lhs; reduce
noncomputable def F9_32 : BT Func := (.node 490 Tryz.f490 (.node 474 Tryz.f474 (.node 473 Tryz.f473 (.node 472 Tryz.f472 .nil .nil) .nil) (.node 489 Tryz.f489 .nil .nil)) (.node 494 Tryz.f494 (.node 493 Tryz.f493 (.node 492 Tryz.f492 .nil .nil) .nil) (.node 495 Tryz.f495 .nil .nil)))
noncomputable def l9_32 : {t : BT (Option T3) // F9_32.map (yslimF Tryz.prog) = t} := by
  refine ⟨?a, ?b⟩
  rotate_left
  · conv => lhs; reduce
attribute [local irreducible] cas8 wPick wBin wEqb wNot wNeg wConv wLoad1 wLoad wStore1 wStore wIdx wLen wLenS wIndex wExt wFAddr wField1 wField wMake wMkB wBox wAlloc wMkSl wBuild wMm wSlice wSliceS wAppend wCopy wCall wIsNil wIsNul wChk wIdxA wIdxV wSliceA wNew wPan wGuard aAdd aSub aMul aQuo aRem aAnd aOr aXor aShl aShr aAndNot aEql aNeq aLss aLeq aGtr aGeq sBad sAdd sEql sNeq kSkip kSeq kCond kBlock kLoop kExit kRet kDrawn kDfr kRf kBad noP entK
noncomputable def c9_8 : {t : BT CT // l9_8.val.map (stg (entK K9)) = t} := by
  refine ⟨?a, ?b⟩
  rotate_left
  · conv => lhs; reduce
theorem o9_8 : c9_8.val.all (CtOK Tryz.prog (entK K9)) := lit_at l9_8.property c9_8.property ⟨Tryz.func102, ⟨Tryz.func100, ⟨Tryz.func99, ⟨Tryz.func98, trivial, trivial⟩, trivial⟩, ⟨Tryz.func101, trivial, trivial⟩⟩, ⟨Tryz.func118, ⟨Tryz.func104, ⟨Tryz.func103, trivial, trivial⟩, trivial⟩, ⟨Tryz.func119, trivial, trivial⟩⟩⟩ (by kernel_rfl)
noncomputable def c9_20 : {t : BT CT // l9_20.val.map (stg (entK K9)) = t} := by
  refine ⟨?a, ?b⟩
  rotate_left
  · conv => lhs; reduce
theorem o9_20 : c9_20.val.all (CtOK Tryz.prog (entK K9)) := lit_at l9_20.property c9_20.property ⟨Tryz.func266, ⟨Tryz.func264, ⟨Tryz.func263, ⟨Tryz.func262, trivial, trivial⟩, trivial⟩, ⟨Tryz.func265, trivial, trivial⟩⟩, ⟨Tryz.func269, ⟨Tryz.func268, ⟨Tryz.func267, trivial, trivial⟩, trivial⟩, ⟨Tryz.func270, trivial, trivial⟩⟩⟩ (by kernel_rfl)
noncomputable def c9_32 : {t : BT CT // l9_32.val.map (stg (entK K9)) = t} := by
  refine ⟨?a, ?b⟩
  rotate_left
  · conv => lhs; reduce
theorem o9_32 : c9_32.val.all (CtOK Tryz.prog (entK K9)) := lit_at l9_32.property c9_32.property ⟨Tryz.func490, ⟨Tryz.func474, ⟨Tryz.func473, ⟨Tryz.func472, trivial, trivial⟩, trivial⟩, ⟨Tryz.func489, trivial, trivial⟩⟩, ⟨Tryz.func494, ⟨Tryz.func493, ⟨Tryz.func492, trivial, trivial⟩, trivial⟩, ⟨Tryz.func495, trivial, trivial⟩⟩⟩ (by kernel_rfl)
end Go.Zw
