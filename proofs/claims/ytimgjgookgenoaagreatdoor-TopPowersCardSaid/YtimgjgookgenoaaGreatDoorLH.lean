/- The head of the translation's own word: read without reckoning the whole of it. -/
import Derived.Test.YtimgjgookgenoaaGreatDoorRows
import Derived.KernelRfl
import Derived.JoinedCond
import Derived.ProofKit
set_option linter.unusedVariables false
set_option linter.unusedSimpArgs false
set_option linter.unusedSectionVars false
namespace Go.Vw
open Go.Proofs Go.Proofs.YtimgjgookgenoaaGreatDoor

theorem ws_ne : ∀ l, wordsSigns l ≠ []
  | [] => by simp [wordsSigns]
  | c :: r => by
    by_cases hc : c = Char.ofNat 32
    · subst hc
      show [] :: wordsSigns r ≠ []
      simp
    · have e : wordsSigns (c :: r) = match wordsSigns r with | w :: ws => (c :: w) :: ws | [] => [[c]] := by
        rw [wordsSigns]
        · rfl
        · exact hc
      rw [e]
      split <;> simp

theorem ws_append : ∀ a b : List Char, wordsSigns (a ++ Char.ofNat 32 :: b) = wordsSigns a ++ wordsSigns b
  | [], b => by show [] :: wordsSigns b = [[]] ++ wordsSigns b; rfl
  | c :: r, b => by
    have ih := ws_append r b
    by_cases hc : c = Char.ofNat 32
    · subst hc
      show [] :: wordsSigns (r ++ Char.ofNat 32 :: b) = [] :: wordsSigns r ++ wordsSigns b
      rw [ih]; rfl
    · have e : ∀ l, wordsSigns (c :: l) = match wordsSigns l with | w :: ws => (c :: w) :: ws | [] => [[c]] := fun l => by
        rw [wordsSigns]
        · rfl
        · exact hc
      rw [List.cons_append, e, e, ih]
      cases h : wordsSigns r with
      | nil => exact absurd h (ws_ne r)
      | cons w ws => rfl

def hash9 : List Nat := [102, 48, 57, 50, 57, 52, 53, 98, 48, 52, 52, 49, 56, 100, 49, 50, 55, 99, 101, 50, 54, 48, 56, 56, 99, 51, 52, 49, 97, 102, 54, 101, 100, 50, 54, 55, 102, 98, 49, 55, 98, 52, 57, 97, 53, 52, 56, 97, 53, 53, 51, 57, 99, 53, 50, 56, 54, 53, 57, 102, 49, 57, 56, 57]
def chs (l : List Nat) : List Char := l.map Char.ofNat

set_option maxRecDepth 100000 in
theorem order_eq : ∃ rest : List Char, Tryz.prog.initOrder = String.ofList (chs [104, 97, 114, 110, 101, 115, 115] ++ Char.ofNat 32 :: (chs hash9 ++ Char.ofNat 32 :: (chs [99, 117, 116] ++ Char.ofNat 32 :: rest))) := ⟨_, rfl⟩

theorem strip_cut (rest : List (List Char)) : stripLifts liftWords (chs [99, 117, 116] :: rest) = ([], chs [99, 117, 116] :: rest) := by kernel_rfl

theorem behind_of {P : Program} {rest : List Char} (h : P.initOrder = String.ofList (chs [104, 97, 114, 110, 101, 115, 115] ++ Char.ofNat 32 :: (chs hash9 ++ Char.ofNat 32 :: (chs [99, 117, 116] ++ Char.ofNat 32 :: rest)))) :
    ∃ rest, behindMainWord (wordsSigns P.initOrder.toList) = chs [99, 117, 116] :: rest := by
  have h1 : wordsSigns (chs [104, 97, 114, 110, 101, 115, 115]) = [chs [104, 97, 114, 110, 101, 115, 115]] := by kernel_rfl
  have h2 : wordsSigns (chs hash9) = [chs hash9] := by kernel_rfl
  have h3 : wordsSigns (chs [99, 117, 116]) = [chs [99, 117, 116]] := by kernel_rfl
  rw [h, String.toList_ofList, ws_append, ws_append, ws_append, h1, h2, h3]
  refine ⟨wordsSigns rest, ?_⟩
  kernel_rfl

section
variable {P : Program} {rest : List (List Char)} (h : behindMainWord (wordsSigns P.initOrder.toList) = chs [99, 117, 116] :: rest)
include h
theorem lifts_of : P.headLifts = [] := by
  unfold Program.headLifts
  rw [h, strip_cut]
  kernel_rfl

theorem made_of : P.make = some .cut := by
  unfold Program.make
  rw [h]
  kernel_rfl

theorem final_of : P.liftsFinal = false := by
  have hl := lifts_of h
  unfold Program.liftsFinal
  simp only [h, hl]
  rfl

theorem enters_of (h1 : P.laysLater = false) (h2 : P.bearsReflect = false) (h3 : P.doorFits [] = true) : P.mayEnter = true := by
  unfold Program.mayEnter
  rw [h]
  simp only [strip_cut, h1, h2, h3]
  refine (Bool.or_eq_true _ _).mpr (Or.inr ?_)
  have e : ((chs [99, 117, 116] :: rest).head? == some "cut".toList) = true := by kernel_rfl
  rw [e]
  rfl
end

theorem made : Tryz.prog.make = some .cut := by
  obtain ⟨rest, h⟩ := order_eq
  obtain ⟨rest, h⟩ := behind_of h
  exact made_of h
theorem final : Tryz.prog.liftsFinal = false := by
  obtain ⟨rest, h⟩ := order_eq
  obtain ⟨rest, h⟩ := behind_of h
  exact final_of h
theorem later_none : Tryz.prog.laysLater = false := by kernel_rfl
theorem reflect_none : Tryz.prog.bearsReflect = false := by kernel_rfl
theorem door_fits : Tryz.prog.doorFits [] = true := by kernel_rfl
theorem enters : Tryz.prog.mayEnter = true := by
  obtain ⟨rest, h⟩ := order_eq
  obtain ⟨rest, h⟩ := behind_of h
  exact enters_of h later_none reflect_none door_fits
theorem made_beq : (Tryz.prog.make == some Make.cut) = true := (congrArg (fun m : Option Make => m == some Make.cut) made).trans (by kernel_rfl)
theorem final_beq : (false == Tryz.prog.liftsFinal) = true := (congrArg (fun m : Bool => false == m) final).trans (by kernel_rfl)
theorem main_is : Tryz.prog.mainIs = some (true, "f092945b04418d127ce26088c341af6ed267fb17b49a548a5539c528659f1989".toList) := by
  obtain ⟨rest, h⟩ := order_eq
  have h1 : wordsSigns (chs [104, 97, 114, 110, 101, 115, 115]) = [chs [104, 97, 114, 110, 101, 115, 115]] := by kernel_rfl
  have h2 : wordsSigns (chs hash9) = [chs hash9] := by kernel_rfl
  have e : ("f092945b04418d127ce26088c341af6ed267fb17b49a548a5539c528659f1989" : String) = String.ofList (chs hash9) := rfl
  have hw : wordsSigns Tryz.prog.initOrder.toList = chs [104, 97, 114, 110, 101, 115, 115] :: chs hash9 :: wordsSigns (chs [99, 117, 116] ++ Char.ofNat 32 :: rest) := by
    rw [h, String.toList_ofList, ws_append, ws_append, h1, h2]; rfl
  have hs : isSumSigns (chs hash9) = true := by kernel_rfl
  have hh : (chs [104, 97, 114, 110, 101, 115, 115] == "harness".toList) = true := by kernel_rfl
  unfold Program.mainIs
  rw [hw, e, String.toList_ofList]
  show (if (!isSumSigns (chs hash9)) = true then none else if (chs [104, 97, 114, 110, 101, 115, 115] == "harness".toList) = true then some (true, chs hash9) else _) = _
  rw [hs, hh]
  rfl
end Go.Vw
