/- Closed facts on the program alone: what it can come to, and what hangs on it. -/
import Derived.Test.YtimgjgookgenoaaGreatDoorProg
import GoSem.ClaimJoined
import GoSem.ClaimDataLaid
import Derived.KernelRfl
set_option linter.unusedVariables false
set_option linter.unusedSimpArgs false
set_option linter.unusedSectionVars false
namespace Go.Proofs.YtimgjgookgenoaaGreatDoor.topPowers
set_option maxRecDepth 100000
def clo9 : List FuncId := [4, 6, 15, 34, 7, 19, 20, 39, 80, 155, 156, 157, 239, 158, 240, 351, 241, 352, 82, 160, 245, 443, 444, 445, 81, 159, 242, 243, 353, 244, 446, 492, 520, 526, 530, 354, 447, 493, 448, 496, 495, 62, 128, 126, 127, 123, 65, 131, 130, 56, 494, 521, 527, 531, 536, 539, 540, 528, 532, 537, 533, 534, 46, 95, 175, 254, 255, 67, 371, 372, 256, 257, 373, 374, 455, 456, 538, 535, 40, 83, 161, 246, 355, 356, 33, 58, 122, 59, 69, 135, 70, 71, 136, 212, 306, 213, 307, 137, 94, 357, 358, 449, 162, 163, 190, 279, 247, 359, 365, 453, 360, 450, 361, 393, 394, 362, 451, 452, 497, 363, 364, 366, 367, 41, 42, 85, 31, 27, 25, 55, 106, 197, 198, 287, 288, 400, 104, 192, 48, 29, 10, 26, 57, 120, 210, 121, 211, 60, 124, 125, 61, 63, 66, 132, 133, 64, 129, 12, 28, 102, 167, 11, 295, 32, 68, 134, 406, 464, 509, 238, 269, 508, 92, 284, 164, 51, 248, 165, 249, 368, 454, 369, 188, 270, 389, 390, 459, 498, 499, 522, 500, 501, 523, 524, 529, 502, 503, 504, 505, 391, 268, 166, 86, 168, 87, 169, 250, 370, 399, 401, 407, 291, 251, 174, 253, 285, 398, 170, 183, 184, 186, 187, 90, 171, 172, 252, 173, 88, 89, 72, 138, 139, 84, 141, 78, 214, 17, 36, 75, 140, 144, 217, 143, 215, 308, 216, 310, 309, 411, 466, 142, 154, 76, 145, 218, 311, 30, 223, 146, 219, 224, 220, 221, 314, 315, 414, 415, 313, 312, 412, 467, 327, 328, 418, 435, 430, 431, 413, 331, 336, 434, 329, 489, 222, 316, 416, 318, 422, 332, 229, 423, 469, 470, 510, 511, 326, 512, 472, 473, 513, 471, 317, 417, 420, 468, 432, 419, 421, 319, 424, 474, 475, 514, 476, 477, 515, 516, 525, 478, 479, 480, 481, 320, 147, 148, 13, 149, 225, 321, 322, 323, 425, 482, 150, 230, 330, 333, 334, 232, 338, 437, 231, 335, 433, 490, 35, 73, 74, 337, 385, 436, 16, 226, 204, 324, 426, 427, 325, 428, 483, 429, 484, 517, 519, 485, 486, 518, 487, 488, 228, 227, 151, 233, 339, 234, 340, 341, 438, 235, 342, 439, 152, 236, 343, 344, 440, 345, 346, 441, 442, 491, 347, 348, 349, 350, 153, 237, 77, 21, 43, 44, 45, 91, 93, 49, 103, 14, 47, 96, 176, 98, 182, 258, 375, 457, 378, 259, 376, 377, 260, 379, 261, 382, 384, 383, 380, 381, 177, 262, 263, 97, 178, 99, 185, 179, 264, 180, 265, 181, 266, 267, 386, 387, 458, 388, 100, 189, 271, 272, 392, 273, 274, 395, 396, 460, 275, 276, 277, 278, 101, 191, 280, 281, 282, 50, 105, 193, 283, 397, 461, 405, 506, 194, 195, 286, 196, 107, 199, 108, 200, 289, 201, 290, 202, 292, 293, 402, 462, 463, 507, 403, 294, 404, 203, 205, 109, 110, 206, 296, 297, 408, 298, 299, 409, 410, 465, 300, 301, 302, 303, 111, 207, 305, 304, 22, 52, 112, 113, 114, 115, 116, 208, 209, 53, 117, 8, 24, 38, 79, 23, 37, 54, 118, 119, 9]
theorem clo : Tryz.prog.closure 4 = clo9 := by kernel_rfl
theorem laidOut : laidOutB Tryz.prog = true := by kernel_rfl
theorem unf9 : Tryz.prog.unfollowed 4 = true := by
  unfold Program.unfollowed
  rw [clo]
  kernel_rfl
theorem rec9 : Tryz.prog.recurses 4 = true := by
  unfold Program.recurses
  rw [unf9]
  rfl
theorem inp9 : Tryz.prog.inPlace 4 = ["internal/bytealg.IndexByteString", "internal/bytealg.IndexString", "math/bits.Add64", "internal/abi.NoEscape", "internal/bytealg.MakeNoZero", "math/bits.Sub64", "internal/reflectlite.ValueOf", "(internal/reflectlite.Value).Type", "(internal/reflectlite.Value).IsNil", "internal/reflectlite.TypeOf", "(internal/reflectlite.Value).Elem", "(internal/reflectlite.Value).Set"] := by
  unfold Program.inPlace
  rw [clo]
  kernel_rfl
theorem nam9 : Tryz.prog.varsNamed 4 = ["cleaver/shell.errLimit", "unicode/utf8.first", "unicode/utf8.acceptRanges", "internal/bytealg.MaxLen", "strconv.ErrSyntax", "strconv.ErrRange", "internal/strconv.uint64pow10", "math/bits.deBruijn32tab", "math/bits.deBruijn64tab", "math/bits.divideError", "math/bits.overflowError", "cleaver/shell.errField", "cleaver/shell.errZero", "cleaver/shell.errNone", "errors.errorType"] := by
  unfold Program.varsNamed
  rw [clo]
  kernel_rfl
end Go.Proofs.YtimgjgookgenoaaGreatDoor.topPowers
