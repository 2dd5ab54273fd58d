/- The resultant: what it is, and when it is nothing. -/
import Derived.Test.YtfdjbmamidmgfaaGreatPN
set_option linter.unusedVariables false
namespace Go.Dt
open Go.Py
theorem sg_pm (j : Nat) : sg j = 1 ∨ sg j = -1 := by unfold sg; split <;> simp
theorem sg_ne (j : Nat) : sg j ≠ 0 := by rcases sg_pm j with h | h <;> rw [h] <;> decide
def Su (a b : List Int) : Rat := Sub (po a) (po b) (a.length - 1) (b.length - 1) 0 0
theorem po_scale (a : List Int) (c : Int) (b : List Int) (h : ∀ t, cf a t = c * cf b t) : po a = fun e => (c : Rat) * po b e := by
 funext e; unfold po; rw [h]; push_cast; rfl
theorem ppL_eqp' {a b : List Int} (h : Eqp a b) : ppL a = ppL b := by rw [ppL, ppL, tr_of_eqp h, coL_eqp h]
theorem ppL_len' (a : List Int) : (ppL a).length = (tr a).length := by simp [ppL]
end Go.Dt
