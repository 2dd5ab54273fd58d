/- The program's tie, in parts, and the row's tie. -/
import Derived.Test.YtimgjgookgenoaaGreatDoorRows
import Derived.LaidByTextLater
import Derived.SevenTiedAt
import Derived.KernelRfl
set_option linter.unusedVariables false
set_option linter.unusedSimpArgs false
set_option linter.unusedSectionVars false
namespace Go.Proofs.YtimgjgookgenoaaGreatDoor
open Go
set_option maxRecDepth 100000
def lst : List (String × DataW Unit) := [("cleaver/shell.errLimit", Rows.laid_cleaver_shell_errLimit), ("unicode/utf8.acceptRanges", Rows.laid_unicode_utf8_acceptRanges), ("strconv.ErrSyntax", Rows.laid_strconv_ErrSyntax), ("strconv.ErrRange", Rows.laid_strconv_ErrRange), ("internal/strconv.uint64pow10", Rows.laid_internal_strconv_uint64pow10), ("math/bits.deBruijn32tab", Rows.laid_math_bits_deBruijn32tab), ("math/bits.deBruijn64tab", Rows.laid_math_bits_deBruijn64tab), ("cleaver/shell.errField", Rows.laid_cleaver_shell_errField), ("cleaver/shell.errZero", Rows.laid_cleaver_shell_errZero), ("cleaver/shell.errNone", Rows.laid_cleaver_shell_errNone), ("errors.errorType", Rows.laid_errors_errorType)]
def knd : List LaidKind := [.sentinel, .data, .sentinel, .sentinel, .data, .data, .data, .sentinel, .sentinel, .sentinel, .handle]
theorem t_w : Tryz.prog.worded (varsWordLater true) = true := by kernel_rfl
theorem t_w2 : Tryz.prog.worded (varsWordLater !true) = false := by kernel_rfl
theorem t_r : Tryz.prog.worded rootWordLater = true := by kernel_rfl
theorem t_k : lst.map (fun x => Tryz.prog.kindOfLater x.1) = knd.map some := by kernel_rfl
theorem t_g : (Tryz.prog.funcNamed "gosem.cut.vars").isSome = true := by kernel_rfl
theorem t_n : varsNamedLaterB Tryz.prog (varsId Tryz.prog) lst = true := by kernel_rfl
theorem t_d (os tape) : varsDone Tryz.prog 400 (varsId Tryz.prog) os tape = true := by kernel_rfl
theorem t_1 (os tape) : (DataW.laidRun Tryz.prog (varsWorld Tryz.prog 400 (varsId Tryz.prog) os tape).memory 8 ((lst.filter fun x => x.2.handleName?.isNone).map (·.1))).map (·.1) = some (lst.filter fun x => x.2.handleName?.isNone) := by kernel_rfl
theorem t_2 (os tape) : (DataW.laidRun Tryz.prog (varsWorld Tryz.prog 400 (varsId Tryz.prog) os tape).memory 8 ((lst.filter fun x => x.2.handleName?.isNone).map (·.1))).map (fun x => decide x.2.Nodup && laidRowsB Tryz.prog (varsWorld Tryz.prog 400 (varsId Tryz.prog) os tape).memory x.2) = some true := by kernel_rfl
theorem t_3 (os tape) : (lst.filter fun x => x.2.handleName?.isSome).all (handleAtB Tryz.prog (varsWorld Tryz.prog 400 (varsId Tryz.prog) os tape).memory) = true := by kernel_rfl
theorem tie : Tryz.prog.laidByTextLater lst knd true := Program.laidByTextLater_by_run_h 400 8 t_w t_w2 t_r t_k t_g t_n t_d t_1 t_2 t_3
theorem pin_first : Tryz.pinned.checked.prog.pinnedFits "unicode/utf8.first" = true := by kernel_rfl
theorem noOwnUnsafe : Tryz.pinned.checked.prog.headLifts.contains "ownunsafe" = false := by kernel_rfl
theorem fits1 : Tryz.pinned.checked.prog.listedFits Rows.topPowersRow.laid = true := by
  unfold Program.listedFits
  rw [noOwnUnsafe]
  kernel_rfl
theorem topPowers_row_tie : Rows.topPowersRow.laidByTextAt .later Tryz.pinned [.sentinel, .pinned, .data, .sentinel, .sentinel, .data, .data, .data, .sentinel, .sentinel, .sentinel, .handle] true :=
  OpenClaim.laidByTextAt_pinned rfl rfl tie rfl rfl rfl rfl (fun y hy _e => by
    simp only [Rows.topPowersRow, List.zip_cons_cons, List.zip_nil_right, List.mem_cons, List.mem_nil_iff, or_false] at hy
    rcases hy with rfl | rfl | rfl | rfl | rfl | rfl | rfl | rfl | rfl | rfl | rfl | rfl
    · cases _e
    · exact ⟨pin_first, by kernel_rfl⟩
    all_goals cases _e) fits1
end Go.Proofs.YtimgjgookgenoaaGreatDoor
