/- Codes written out: those that part the tree. -/
import Derived.Test.YtimgjgookgenoaaGreatDoorLA
import Derived.Test.YtimgjgookgenoaaGreatDoorProg
set_option linter.unusedVariables false
set_option linter.unusedSimpArgs false
set_option linter.unusedSectionVars false
namespace Go.Zw
open Go.Proofs
set_option maxRecDepth 1000000
set_option maxHeartbeats 40000000
noncomputable def l216 : {t : BT (Option T3) // (BT.node 216 Tryz.f216 .nil .nil).map (yslimF Tryz.prog) = t} := by
  refine ⟨?a, ?b⟩
  rotate_left
  · conv => lhs; reduce
noncomputable def l97 : {t : BT (Option T3) // (BT.node 97 Tryz.f97 .nil .nil).map (yslimF Tryz.prog) = t} := by
  refine ⟨?a, ?b⟩
  rotate_left
  · conv => lhs; reduce
noncomputable def l48 : {t : BT (Option T3) // (BT.node 48 Tryz.f48 .nil .nil).map (yslimF Tryz.prog) = t} := by
  refine ⟨?a, ?b⟩
  rotate_left
  · conv => lhs; reduce
noncomputable def l27 : {t : BT (Option T3) // (BT.node 27 Tryz.f27 .nil .nil).map (yslimF Tryz.prog) = t} := by
  refine ⟨?a, ?b⟩
  rotate_left
  · conv => lhs; reduce
noncomputable def l14 : {t : BT (Option T3) // (BT.node 14 Tryz.f14 .nil .nil).map (yslimF Tryz.prog) = t} := by
  refine ⟨?a, ?b⟩
  rotate_left
  · conv => lhs; reduce
noncomputable def l37 : {t : BT (Option T3) // (BT.node 37 Tryz.f37 .nil .nil).map (yslimF Tryz.prog) = t} := by
  refine ⟨?a, ?b⟩
  rotate_left
  · conv => lhs; reduce
noncomputable def l75 : {t : BT (Option T3) // (BT.node 75 Tryz.f75 .nil .nil).map (yslimF Tryz.prog) = t} := by
  refine ⟨?a, ?b⟩
  rotate_left
  · conv => lhs; reduce
noncomputable def l64 : {t : BT (Option T3) // (BT.node 64 Tryz.f64 .nil .nil).map (yslimF Tryz.prog) = t} := by
  refine ⟨?a, ?b⟩
  rotate_left
  · conv => lhs; reduce
noncomputable def l86 : {t : BT (Option T3) // (BT.node 86 Tryz.f86 .nil .nil).map (yslimF Tryz.prog) = t} := by
  refine ⟨?a, ?b⟩
  rotate_left
  · conv => lhs; reduce
noncomputable def l153 : {t : BT (Option T3) // (BT.node 153 Tryz.f153 .nil .nil).map (yslimF Tryz.prog) = t} := by
  refine ⟨?a, ?b⟩
  rotate_left
  · conv => lhs; reduce
noncomputable def l131 : {t : BT (Option T3) // (BT.node 131 Tryz.f131 .nil .nil).map (yslimF Tryz.prog) = t} := by
  refine ⟨?a, ?b⟩
  rotate_left
  · conv => lhs; reduce
noncomputable def l120 : {t : BT (Option T3) // (BT.node 120 Tryz.f120 .nil .nil).map (yslimF Tryz.prog) = t} := by
  refine ⟨?a, ?b⟩
  rotate_left
  · conv => lhs; reduce
noncomputable def l143 : {t : BT (Option T3) // (BT.node 143 Tryz.f143 .nil .nil).map (yslimF Tryz.prog) = t} := by
  refine ⟨?a, ?b⟩
  rotate_left
  · conv => lhs; reduce
noncomputable def l179 : {t : BT (Option T3) // (BT.node 179 Tryz.f179 .nil .nil).map (yslimF Tryz.prog) = t} := by
  refine ⟨?a, ?b⟩
  rotate_left
  · conv => lhs; reduce
noncomputable def l166 : {t : BT (Option T3) // (BT.node 166 Tryz.f166 .nil .nil).map (yslimF Tryz.prog) = t} := by
  refine ⟨?a, ?b⟩
  rotate_left
  · conv => lhs; reduce
noncomputable def l189 : {t : BT (Option T3) // (BT.node 189 Tryz.f189 .nil .nil).map (yslimF Tryz.prog) = t} := by
  refine ⟨?a, ?b⟩
  rotate_left
  · conv => lhs; reduce
noncomputable def l212 : {t : BT (Option T3) // (BT.node 212 Tryz.f212 .nil .nil).map (yslimF Tryz.prog) = t} := ⟨_, rfl⟩
noncomputable def l358 : {t : BT (Option T3) // (BT.node 358 Tryz.f358 .nil .nil).map (yslimF Tryz.prog) = t} := by
  refine ⟨?a, ?b⟩
  rotate_left
  · conv => lhs; reduce
noncomputable def l271 : {t : BT (Option T3) // (BT.node 271 Tryz.f271 .nil .nil).map (yslimF Tryz.prog) = t} := by
  refine ⟨?a, ?b⟩
  rotate_left
  · conv => lhs; reduce
noncomputable def l244 : {t : BT (Option T3) // (BT.node 244 Tryz.f244 .nil .nil).map (yslimF Tryz.prog) = t} := by
  refine ⟨?a, ?b⟩
  rotate_left
  · conv => lhs; reduce
noncomputable def l230 : {t : BT (Option T3) // (BT.node 230 Tryz.f230 .nil .nil).map (yslimF Tryz.prog) = t} := by
  refine ⟨?a, ?b⟩
  rotate_left
  · conv => lhs; reduce
noncomputable def l261 : {t : BT (Option T3) // (BT.node 261 Tryz.f261 .nil .nil).map (yslimF Tryz.prog) = t} := by
  refine ⟨?a, ?b⟩
  rotate_left
  · conv => lhs; reduce
noncomputable def l329 : {t : BT (Option T3) // (BT.node 329 Tryz.f329 .nil .nil).map (yslimF Tryz.prog) = t} := by
  refine ⟨?a, ?b⟩
  rotate_left
  · conv => lhs; reduce
noncomputable def l314 : {t : BT (Option T3) // (BT.node 314 Tryz.f314 .nil .nil).map (yslimF Tryz.prog) = t} := by
  refine ⟨?a, ?b⟩
  rotate_left
  · conv => lhs; reduce
noncomputable def l339 : {t : BT (Option T3) // (BT.node 339 Tryz.f339 .nil .nil).map (yslimF Tryz.prog) = t} := by
  refine ⟨?a, ?b⟩
  rotate_left
  · conv => lhs; reduce
noncomputable def l355 : {t : BT (Option T3) // (BT.node 355 Tryz.f355 .nil .nil).map (yslimF Tryz.prog) = t} := ⟨_, rfl⟩
noncomputable def l434 : {t : BT (Option T3) // (BT.node 434 Tryz.f434 .nil .nil).map (yslimF Tryz.prog) = t} := by
  refine ⟨?a, ?b⟩
  rotate_left
  · conv => lhs; reduce
noncomputable def l390 : {t : BT (Option T3) // (BT.node 390 Tryz.f390 .nil .nil).map (yslimF Tryz.prog) = t} := by
  refine ⟨?a, ?b⟩
  rotate_left
  · conv => lhs; reduce
noncomputable def l380 : {t : BT (Option T3) // (BT.node 380 Tryz.f380 .nil .nil).map (yslimF Tryz.prog) = t} := by
  refine ⟨?a, ?b⟩
  rotate_left
  · conv => lhs; reduce
noncomputable def l419 : {t : BT (Option T3) // (BT.node 419 Tryz.f419 .nil .nil).map (yslimF Tryz.prog) = t} := by
  refine ⟨?a, ?b⟩
  rotate_left
  · conv => lhs; reduce
noncomputable def l471 : {t : BT (Option T3) // (BT.node 471 Tryz.f471 .nil .nil).map (yslimF Tryz.prog) = t} := by
  refine ⟨?a, ?b⟩
  rotate_left
  · conv => lhs; reduce
noncomputable def l453 : {t : BT (Option T3) // (BT.node 453 Tryz.f453 .nil .nil).map (yslimF Tryz.prog) = t} := by
  refine ⟨?a, ?b⟩
  rotate_left
  · conv => lhs; reduce
noncomputable def l496 : {t : BT (Option T3) // (BT.node 496 Tryz.f496 .nil .nil).map (yslimF Tryz.prog) = t} := by
  refine ⟨?a, ?b⟩
  rotate_left
  · conv => lhs; reduce
attribute [local irreducible] cas8 wPick wBin wEqb wNot wNeg wConv wLoad1 wLoad wStore1 wStore wIdx wLen wLenS wIndex wExt wFAddr wField1 wField wMake wMkB wBox wAlloc wMkSl wBuild wMm wSlice wSliceS wAppend wCopy wCall wIsNil wIsNul wChk wIdxA wIdxV wSliceA wNew wPan wGuard aAdd aSub aMul aQuo aRem aAnd aOr aXor aShl aShr aAndNot aEql aNeq aLss aLeq aGtr aGeq sBad sAdd sEql sNeq kSkip kSeq kCond kBlock kLoop kExit kRet kDrawn kDfr kRf kBad noP entK
noncomputable def c216 : {t : BT CT // l216.val.map (stg (entK K9)) = t} := by
  refine ⟨?a, ?b⟩
  rotate_left
  · conv => lhs; reduce
noncomputable def c97 : {t : BT CT // l97.val.map (stg (entK K9)) = t} := by
  refine ⟨?a, ?b⟩
  rotate_left
  · conv => lhs; reduce
noncomputable def c48 : {t : BT CT // l48.val.map (stg (entK K9)) = t} := by
  refine ⟨?a, ?b⟩
  rotate_left
  · conv => lhs; reduce
noncomputable def c27 : {t : BT CT // l27.val.map (stg (entK K9)) = t} := by
  refine ⟨?a, ?b⟩
  rotate_left
  · conv => lhs; reduce
noncomputable def c14 : {t : BT CT // l14.val.map (stg (entK K9)) = t} := by
  refine ⟨?a, ?b⟩
  rotate_left
  · conv => lhs; reduce
noncomputable def c37 : {t : BT CT // l37.val.map (stg (entK K9)) = t} := by
  refine ⟨?a, ?b⟩
  rotate_left
  · conv => lhs; reduce
noncomputable def c75 : {t : BT CT // l75.val.map (stg (entK K9)) = t} := by
  refine ⟨?a, ?b⟩
  rotate_left
  · conv => lhs; reduce
noncomputable def c64 : {t : BT CT // l64.val.map (stg (entK K9)) = t} := by
  refine ⟨?a, ?b⟩
  rotate_left
  · conv => lhs; reduce
noncomputable def c86 : {t : BT CT // l86.val.map (stg (entK K9)) = t} := by
  refine ⟨?a, ?b⟩
  rotate_left
  · conv => lhs; reduce
noncomputable def c153 : {t : BT CT // l153.val.map (stg (entK K9)) = t} := by
  refine ⟨?a, ?b⟩
  rotate_left
  · conv => lhs; reduce
noncomputable def c131 : {t : BT CT // l131.val.map (stg (entK K9)) = t} := by
  refine ⟨?a, ?b⟩
  rotate_left
  · conv => lhs; reduce
noncomputable def c120 : {t : BT CT // l120.val.map (stg (entK K9)) = t} := by
  refine ⟨?a, ?b⟩
  rotate_left
  · conv => lhs; reduce
noncomputable def c143 : {t : BT CT // l143.val.map (stg (entK K9)) = t} := by
  refine ⟨?a, ?b⟩
  rotate_left
  · conv => lhs; reduce
noncomputable def c179 : {t : BT CT // l179.val.map (stg (entK K9)) = t} := by
  refine ⟨?a, ?b⟩
  rotate_left
  · conv => lhs; reduce
noncomputable def c166 : {t : BT CT // l166.val.map (stg (entK K9)) = t} := by
  refine ⟨?a, ?b⟩
  rotate_left
  · conv => lhs; reduce
noncomputable def c189 : {t : BT CT // l189.val.map (stg (entK K9)) = t} := by
  refine ⟨?a, ?b⟩
  rotate_left
  · conv => lhs; reduce
noncomputable def c212 : {t : BT CT // l212.val.map (stg (entK K9)) = t} := ⟨_, rfl⟩
noncomputable def c358 : {t : BT CT // l358.val.map (stg (entK K9)) = t} := by
  refine ⟨?a, ?b⟩
  rotate_left
  · conv => lhs; reduce
noncomputable def c271 : {t : BT CT // l271.val.map (stg (entK K9)) = t} := by
  refine ⟨?a, ?b⟩
  rotate_left
  · conv => lhs; reduce
noncomputable def c244 : {t : BT CT // l244.val.map (stg (entK K9)) = t} := by
  refine ⟨?a, ?b⟩
  rotate_left
  · conv => lhs; reduce
noncomputable def c230 : {t : BT CT // l230.val.map (stg (entK K9)) = t} := by
  refine ⟨?a, ?b⟩
  rotate_left
  · conv => lhs; reduce
noncomputable def c261 : {t : BT CT // l261.val.map (stg (entK K9)) = t} := by
  refine ⟨?a, ?b⟩
  rotate_left
  · conv => lhs; reduce
noncomputable def c329 : {t : BT CT // l329.val.map (stg (entK K9)) = t} := by
  refine ⟨?a, ?b⟩
  rotate_left
  · conv => lhs; reduce
noncomputable def c314 : {t : BT CT // l314.val.map (stg (entK K9)) = t} := by
  refine ⟨?a, ?b⟩
  rotate_left
  · conv => lhs; reduce
noncomputable def c339 : {t : BT CT // l339.val.map (stg (entK K9)) = t} := by
  refine ⟨?a, ?b⟩
  rotate_left
  · conv => lhs; reduce
noncomputable def c355 : {t : BT CT // l355.val.map (stg (entK K9)) = t} := ⟨_, rfl⟩
noncomputable def c434 : {t : BT CT // l434.val.map (stg (entK K9)) = t} := by
  refine ⟨?a, ?b⟩
  rotate_left
  · conv => lhs; reduce
noncomputable def c390 : {t : BT CT // l390.val.map (stg (entK K9)) = t} := by
  refine ⟨?a, ?b⟩
  rotate_left
  · conv => lhs; reduce
noncomputable def c380 : {t : BT CT // l380.val.map (stg (entK K9)) = t} := by
  refine ⟨?a, ?b⟩
  rotate_left
  · conv => lhs; reduce
noncomputable def c419 : {t : BT CT // l419.val.map (stg (entK K9)) = t} := by
  refine ⟨?a, ?b⟩
  rotate_left
  · conv => lhs; reduce
noncomputable def c471 : {t : BT CT // l471.val.map (stg (entK K9)) = t} := by
  refine ⟨?a, ?b⟩
  rotate_left
  · conv => lhs; reduce
noncomputable def c453 : {t : BT CT // l453.val.map (stg (entK K9)) = t} := by
  refine ⟨?a, ?b⟩
  rotate_left
  · conv => lhs; reduce
noncomputable def c496 : {t : BT CT // l496.val.map (stg (entK K9)) = t} := by
  refine ⟨?a, ?b⟩
  rotate_left
  · conv => lhs; reduce
theorem o216 : c216.val.all (CtOK Tryz.prog (entK K9)) := lit_at l216.property c216.property ⟨Tryz.func216, trivial, trivial⟩ (by kernel_rfl)
theorem o97 : c97.val.all (CtOK Tryz.prog (entK K9)) := lit_at l97.property c97.property ⟨Tryz.func97, trivial, trivial⟩ (by kernel_rfl)
theorem o48 : c48.val.all (CtOK Tryz.prog (entK K9)) := lit_at l48.property c48.property ⟨Tryz.func48, trivial, trivial⟩ (by kernel_rfl)
theorem o27 : c27.val.all (CtOK Tryz.prog (entK K9)) := lit_at l27.property c27.property ⟨Tryz.func27, trivial, trivial⟩ (by kernel_rfl)
theorem o14 : c14.val.all (CtOK Tryz.prog (entK K9)) := lit_at l14.property c14.property ⟨Tryz.func14, trivial, trivial⟩ (by kernel_rfl)
theorem o37 : c37.val.all (CtOK Tryz.prog (entK K9)) := lit_at l37.property c37.property ⟨Tryz.func37, trivial, trivial⟩ (by kernel_rfl)
theorem o75 : c75.val.all (CtOK Tryz.prog (entK K9)) := lit_at l75.property c75.property ⟨Tryz.func75, trivial, trivial⟩ (by kernel_rfl)
theorem o64 : c64.val.all (CtOK Tryz.prog (entK K9)) := lit_at l64.property c64.property ⟨Tryz.func64, trivial, trivial⟩ (by kernel_rfl)
theorem o86 : c86.val.all (CtOK Tryz.prog (entK K9)) := lit_at l86.property c86.property ⟨Tryz.func86, trivial, trivial⟩ (by kernel_rfl)
theorem o153 : c153.val.all (CtOK Tryz.prog (entK K9)) := lit_at l153.property c153.property ⟨Tryz.func153, trivial, trivial⟩ (by kernel_rfl)
theorem o131 : c131.val.all (CtOK Tryz.prog (entK K9)) := lit_at l131.property c131.property ⟨Tryz.func131, trivial, trivial⟩ (by kernel_rfl)
theorem o120 : c120.val.all (CtOK Tryz.prog (entK K9)) := lit_at l120.property c120.property ⟨Tryz.func120, trivial, trivial⟩ (by kernel_rfl)
theorem o143 : c143.val.all (CtOK Tryz.prog (entK K9)) := lit_at l143.property c143.property ⟨Tryz.func143, trivial, trivial⟩ (by kernel_rfl)
theorem o179 : c179.val.all (CtOK Tryz.prog (entK K9)) := lit_at l179.property c179.property ⟨Tryz.func179, trivial, trivial⟩ (by kernel_rfl)
theorem o166 : c166.val.all (CtOK Tryz.prog (entK K9)) := lit_at l166.property c166.property ⟨Tryz.func166, trivial, trivial⟩ (by kernel_rfl)
theorem o189 : c189.val.all (CtOK Tryz.prog (entK K9)) := lit_at l189.property c189.property ⟨Tryz.func189, trivial, trivial⟩ (by kernel_rfl)
theorem o212 : c212.val.all (CtOK Tryz.prog (entK K9)) := lit_at l212.property c212.property ⟨Tryz.func212, trivial, trivial⟩ (by kernel_rfl)
theorem o358 : c358.val.all (CtOK Tryz.prog (entK K9)) := lit_at l358.property c358.property ⟨Tryz.func358, trivial, trivial⟩ (by kernel_rfl)
theorem o271 : c271.val.all (CtOK Tryz.prog (entK K9)) := lit_at l271.property c271.property ⟨Tryz.func271, trivial, trivial⟩ (by kernel_rfl)
theorem o244 : c244.val.all (CtOK Tryz.prog (entK K9)) := lit_at l244.property c244.property ⟨Tryz.func244, trivial, trivial⟩ (by kernel_rfl)
theorem o230 : c230.val.all (CtOK Tryz.prog (entK K9)) := lit_at l230.property c230.property ⟨Tryz.func230, trivial, trivial⟩ (by kernel_rfl)
theorem o261 : c261.val.all (CtOK Tryz.prog (entK K9)) := lit_at l261.property c261.property ⟨Tryz.func261, trivial, trivial⟩ (by kernel_rfl)
theorem o329 : c329.val.all (CtOK Tryz.prog (entK K9)) := lit_at l329.property c329.property ⟨Tryz.func329, trivial, trivial⟩ (by kernel_rfl)
theorem o314 : c314.val.all (CtOK Tryz.prog (entK K9)) := lit_at l314.property c314.property ⟨Tryz.func314, trivial, trivial⟩ (by kernel_rfl)
theorem o339 : c339.val.all (CtOK Tryz.prog (entK K9)) := lit_at l339.property c339.property ⟨Tryz.func339, trivial, trivial⟩ (by kernel_rfl)
theorem o355 : c355.val.all (CtOK Tryz.prog (entK K9)) := lit_at l355.property c355.property ⟨Tryz.func355, trivial, trivial⟩ (by kernel_rfl)
theorem o434 : c434.val.all (CtOK Tryz.prog (entK K9)) := lit_at l434.property c434.property ⟨Tryz.func434, trivial, trivial⟩ (by kernel_rfl)
theorem o390 : c390.val.all (CtOK Tryz.prog (entK K9)) := lit_at l390.property c390.property ⟨Tryz.func390, trivial, trivial⟩ (by kernel_rfl)
theorem o380 : c380.val.all (CtOK Tryz.prog (entK K9)) := lit_at l380.property c380.property ⟨Tryz.func380, trivial, trivial⟩ (by kernel_rfl)
theorem o419 : c419.val.all (CtOK Tryz.prog (entK K9)) := lit_at l419.property c419.property ⟨Tryz.func419, trivial, trivial⟩ (by kernel_rfl)
theorem o471 : c471.val.all (CtOK Tryz.prog (entK K9)) := lit_at l471.property c471.property ⟨Tryz.func471, trivial, trivial⟩ (by kernel_rfl)
theorem o453 : c453.val.all (CtOK Tryz.prog (entK K9)) := lit_at l453.property c453.property ⟨Tryz.func453, trivial, trivial⟩ (by kernel_rfl)
theorem o496 : c496.val.all (CtOK Tryz.prog (entK K9)) := lit_at l496.property c496.property ⟨Tryz.func496, trivial, trivial⟩ (by kernel_rfl)
end Go.Zw
