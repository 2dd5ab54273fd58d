/- TopDepth: brackets within brackets, as deep as the limit says, are read, one more is refused at its place: the row and its tied card. Conditions: those of the given statement (what the card lists is tied to the text). -/
import Derived.Test.YtimgjgookgenoaaGreatDoorTL
import Derived.Test.YtimgjgookgenoaaGreatDoorLH
import Derived.Test.YtimgjgookgenoaaGreatDoorCB
set_option linter.unusedVariables false
set_option linter.unusedSimpArgs false
set_option linter.unusedSectionVars false
namespace Go.Proofs.YtimgjgookgenoaaGreatDoor.topDepth
open Go.ChangeShapes Go.WideShapes Go.ChangeAt Go.RowKit
set_option maxRecDepth 100000
theorem j10 : (Rows.topDepthRow.inPlace == Tryz.prog.inPlace 3) = true := by rw [inp9]; kernel_rfl
theorem j11 : (Rows.topDepthRow.unfollowed == Tryz.prog.unfollowed 3) = true := by rw [unf9]; kernel_rfl
theorem j12 : (Rows.topDepthRow.recurses == Tryz.prog.recurses 3) = true := by rw [rec9]; kernel_rfl
theorem j13 : (Rows.topDepthRow.named == Tryz.prog.varsNamed 3) = true := by rw [nam9]; kernel_rfl
set_option maxHeartbeats 4000000 in
theorem closed : joinedFacts Tryz.pinned.checked.prog 3 Tryz.f3 (OpenSpec.ofChange Rows.topDepthSpec).bare Rows.topDepthRow = true := by
  unfold joinedFacts
  simp only [Bool.and_eq_true]
  and_intros
  rotate_left 1
  exact laidOut
  rotate_left 7
  exact j10
  exact j11
  exact j12
  exact j13
  rotate_left 12
  exact Go.Vw.enters
  exact Go.Vw.final_beq
  exact Go.Vw.made_beq
  all_goals (as_aux_lemma => kernel_rfl)
theorem named : Tryz.pinned.checked.prog.funcNamed Rows.topDepthRow.func = some 3 := by kernel_rfl
theorem inst : Tryz.f3.isInstance Tryz.pinned.checked.prog Rows.topDepthRow.origin Rows.topDepthRow.targs := of_decide_eq_true (by kernel_rfl)
theorem said : Rows.TopDepthSaid :=
  OpenClaim.holds_of_cond 3 Tryz.f3 rfl rfl rfl rfl rfl rfl rfl ⟨rfl, rfl, rfl, rfl, rfl⟩ rfl rfl rfl rfl rfl named Tryz.func3 closed
    inst (by unfold Func.isWrapper; first | (rw [if_pos (by decide +kernel)]; kernel_rfl) | (rw [if_neg (by decide +kernel)]; exact ⟨rfl, rfl⟩))
    (fun os started H enc _ F => by rw [OpenClaim.pre_eq_preRow]; exact lifted os started H enc F)

theorem plain (f : FuncId) (fn : Func) (hf : Tryz.pinned.checked.prog.funcNamed "cleaver/cleavertop.TopDepth" = some f) (hfn : Tryz.pinned.checked.prog.funcs[f]? = some fn) :
    true = Tryz.pinned.checked.prog.looks [] ∧ ∀ (j : Nat) t, fn.params[j]? = some t → Tryz.pinned.checked.prog.wantsStandIn t = false := by
  obtain rfl : f = 3 := Option.some.inj ((show Tryz.prog.funcNamed "cleaver/cleavertop.TopDepth" = some 3 by kernel_rfl).symm.trans hf) |>.symm
  obtain rfl : fn = Tryz.f3 := (Option.some.inj (Tryz.func3.symm.trans hfn)).symm
  refine ⟨by kernel_rfl, fun j t ht => ?_⟩
  rw [Tryz.params3] at ht
  obtain rfl : t = 3 := by simpa using Array.mem_of_getElem? ht
  exact (show Tryz.prog.wantsStandIn 3 = false by kernel_rfl)

theorem noGo : Tryz.prog.funcs.toList.any Func.goes = false := by kernel_rfl
theorem goes_none {P : Program} (h : P.funcs.toList.any Func.goes = false) (s : String) : P.goesAt .entering s = false := by
  have h1 : ∀ g : Nat, (P.funcs[g]?).any Func.goes = false := fun g => by
    cases e : P.funcs[g]? with
    | none => rfl
    | some fn =>
      have hm : fn ∈ P.funcs.toList := by
        obtain ⟨hl, he⟩ := Array.getElem?_eq_some_iff.1 e
        rw [← he]
        exact Array.getElem_mem_toList hl
      have := List.any_eq_false.1 h fn hm
      simpa using this
  have h2 : P.funcs.any Func.goes = false := by rw [← Array.any_toList]; exact h
  have h3 : ∀ f, P.goes f = false := fun f => by
    unfold Program.goes
    rw [h2, Bool.and_false, Bool.or_false, List.any_eq_false]
    intro g _
    simp [h1 g]
  unfold Program.goesAt Program.goesFrom
  cases e : P.funcNamed s with
  | none => rfl
  | some f => simp [h3 f]

/-- The card. -/
theorem proved : Rows.TopDepthCardSaid := by
  refine Claim7.holds_tied_plain_at .later [] _ _ _ _ said (fun _ h => by cases h) ?a (fun _ h => by cases h) topDepth_row_tie rfl ⟨rfl, rfl⟩ ?b rfl plain ?c
  · as_aux_lemma => kernel_rfl
  · exact Go.Vw.main_is
  · exact (goes_none noGo _).symm
end Go.Proofs.YtimgjgookgenoaaGreatDoor.topDepth
