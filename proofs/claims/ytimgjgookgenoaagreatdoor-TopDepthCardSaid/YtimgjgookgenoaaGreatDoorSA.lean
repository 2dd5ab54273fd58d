/- The program's functions as the kernel takes them. -/
import Derived.Test.YtimgjgookgenoaaGreatDoorBA4
import Derived.Test.YtimgjgookgenoaaGreatDoorProg
import Derived.KernelRfl
set_option linter.unusedVariables false
set_option linter.unusedSimpArgs false
set_option linter.unusedSectionVars false
namespace Go.Proofs.YtimgjgookgenoaaGreatDoor
open Go Go.Zw
set_option maxRecDepth 1000000
def L9a : List Nat := [3, 6, 7, 10, 11, 12, 13, 14, 15, 16, 19, 20, 21, 22, 25, 26, 27, 28, 29, 30, 31, 32, 33, 34, 35, 36, 39, 40, 42, 43, 44, 45, 46, 47, 48, 49, 51, 55, 56, 57, 58, 60, 62, 64, 65, 66, 67, 68, 69, 70, 71, 72, 73, 74, 75, 76, 77, 78, 80, 81]
theorem d9a : allD Tryz.prog L9a = true := by kernel_rfl
def L9b : List Nat := [82, 83, 85, 86, 87, 89, 90, 91, 92, 93, 94, 95, 96, 97, 98, 99, 100, 101, 102, 103, 104, 120, 121, 122, 123, 124, 125, 126, 128, 129, 130, 131, 132, 134, 135, 137, 138, 139, 140, 141, 142, 143, 144, 145, 146, 147, 148, 149, 150, 151, 152, 153, 154, 155, 159, 160, 161, 162, 163, 164]
theorem d9b : allD Tryz.prog L9b = true := by kernel_rfl
def L9c : List Nat := [165, 166, 168, 170, 171, 172, 173, 175, 176, 177, 178, 179, 180, 181, 182, 183, 184, 185, 186, 187, 188, 189, 190, 191, 192, 210, 211, 212, 214, 215, 216, 217, 218, 219, 220, 221, 222, 223, 224, 229, 230, 231, 232, 233, 234, 235, 236, 237, 238, 243, 244, 246, 247, 248, 249, 252, 254, 258, 259, 260]
theorem d9c : allD Tryz.prog L9c = true := by kernel_rfl
def L9d : List Nat := [261, 262, 263, 264, 265, 266, 267, 268, 269, 270, 271, 280, 281, 282, 308, 309, 310, 311, 312, 313, 314, 315, 316, 317, 318, 319, 320, 326, 327, 328, 329, 330, 331, 332, 333, 334, 335, 336, 337, 338, 339, 340, 341, 342, 343, 353, 354, 355, 356, 357, 358, 359, 365, 368, 369, 375, 376, 377, 378, 379]
theorem d9d : allD Tryz.prog L9d = true := by kernel_rfl
def L9e : List Nat := [380, 381, 382, 383, 384, 385, 386, 387, 388, 389, 390, 391, 411, 412, 413, 414, 415, 416, 417, 418, 419, 420, 421, 422, 423, 424, 430, 431, 432, 433, 434, 435, 436, 437, 438, 439, 446, 447, 448, 449, 453, 454, 457, 458, 459, 466, 467, 468, 469, 470, 471, 472, 473, 474, 489, 490, 492, 493, 494, 495]
theorem d9e : allD Tryz.prog L9e = true := by kernel_rfl
def L9f : List Nat := [496, 498, 510, 511, 512, 513, 520, 521, 527]
theorem d9f : allD Tryz.prog L9f = true := by kernel_rfl
def L9 : List Nat := L9a ++ (L9b ++ (L9c ++ (L9d ++ (L9e ++ (L9f)))))
noncomputable def tab9 : FuncId → Option T3 := tabY Tryz.prog L9
noncomputable def dtab9 : FuncId → Option TD := tabD Tryz.prog [242]
noncomputable def slm9 (n : Nat) (c : Code) : Option XC := xslimCode Tryz.prog n c
theorem tab9_ok : TabOK Tryz.prog tab9 := tabY_ok fun f hf => by
  simp only [L9, List.mem_append] at hf
  rcases hf with hf | hf | hf | hf | hf | hf
  · exact allD_ok d9a f hf
  · exact allD_ok d9b f hf
  · exact allD_ok d9c f hf
  · exact allD_ok d9d f hf
  · exact allD_ok d9e f hf
  · exact allD_ok d9f f hf
theorem dtab9_ok : DTabOK Tryz.prog dtab9 := tabD_ok _ _
noncomputable def con9 : (YT → Fn3) → YT → Fn3 := conX 127 133 245 306
theorem e127 : ExtF Tryz.prog 127 addEntry := ⟨Tryz.f127, Tryz.func127, by kernel_rfl, by kernel_rfl, by kernel_rfl, by kernel_rfl⟩
theorem e133 : ExtF Tryz.prog 133 subEntry := ⟨Tryz.f133, Tryz.func133, by kernel_rfl, by kernel_rfl, by kernel_rfl, by kernel_rfl⟩
theorem e245 : ExtF Tryz.prog 245 Extern.BytealgIndexByte.indexByte := ⟨Tryz.f245, Tryz.func245, by kernel_rfl, by kernel_rfl, by kernel_rfl, by kernel_rfl⟩
theorem e306 : ExtF Tryz.prog 306 Extern.AbiNoEscape.same := ⟨Tryz.f306, Tryz.func306, by kernel_rfl, by kernel_rfl, by kernel_rfl, by kernel_rfl⟩
theorem con9_ok : ConOK Tryz.prog con9 := conX_ok e127 e133 e245 e306
noncomputable def kF (l : List (Nat × List Fact)) : YT → Fn3 := kfun (conM (fsL l) con9) tab9 dtab9 1000 60
noncomputable def yF (l : List (Nat × List Fact)) : YT := yD (conM (fsL l) con9) tab9 dtab9 slm9 4
noncomputable def chk (l : List (Nat × List Fact)) (g : List (Nat × Fact)) : Bool := chkAll (kF l (yF l)) g
theorem kF_ok {l : List (Nat × List Fact)} (h : depsOK Tryz.prog l) : GOK Tryz.prog (kF l) := kfun_ok (conM_ok (fsL_ok h) con9_ok) tab9_ok dtab9_ok 60
theorem yF_ok {l : List (Nat × List Fact)} (h : depsOK Tryz.prog l) : YOK Tryz.prog (yF l) := yD_ok (conM_ok (fsL_ok h) con9_ok) tab9_ok dtab9_ok (fun _ _ _ h => h) 4
theorem chk_ok {deps : List (Nat × List Fact)} {g : List (Nat × Fact)} (hd : depsOK Tryz.prog deps) (h : chk deps g = true) : allOK Tryz.prog g := chkAll_ok (kF_ok hd) (yF_ok hd) h
end Go.Proofs.YtimgjgookgenoaaGreatDoor
