/- PrimeGaps: between a number and the next prime there is none; for arguments that hold at most 1048576 values together. -/
import Derived.Test.YtphcdigmgbhjcaaML
import Derived.Test.YtphcdigmgbhjcaaL1
import Derived.Test.YtphcdigmgbhjcaaL2
import Derived.Test.YtphcdigmgbhjcaaRows
import Derived.WalkKit
import Derived.ProofKit
import Derived.JoinedCond
import Derived.OpenShut
import Derived.Carry
import Derived.KernelRfl
set_option linter.unusedVariables false
set_option linter.unusedSimpArgs false
namespace Go.Proofs.Ytphcdigmgbhjcaa.primeGaps
open Go.ChangeShapes Go.WideShapes Go.ChangeAt Go.RowKit Go.Vw Go.ChangeMaps

theorem own : ownKnob Try.prog.godebug = none := by kernel_rfl
theorem laidOut : laidOutB Try.prog = true := by kernel_rfl
theorem cells30 : Try.prog.cellsOf 30 = 1 := by kernel_rfl
theorem cells3 : Try.prog.cellsOf 3 = 1 := by kernel_rfl

theorem one_le {H : Type} (d : DataW H) : 1 ≤ Rows.uptoBulk d := by
  cases d with
  | lit l => cases l <;> simp [Rows.uptoBulk]
  | nil => simp [Rows.uptoBulk]
  | ptr d => simp [Rows.uptoBulk]
  | slice elems spare => simp [Rows.uptoBulk]
  | agg parts => simp [Rows.uptoBulk]
  | iface t d => simp [Rows.uptoBulk]
  | map entries => simp [Rows.uptoBulk]
  | held h => simp [Rows.uptoBulk]
theorem length_le {H : Type} (l : List (DataW H)) : l.length ≤ Rows.uptoBulkAll l := by
  induction l with
  | nil => simp [Rows.uptoBulkAll]
  | cons x r ih => have := one_le x; simp only [Rows.uptoBulkAll, List.length_cons]; omega
theorem part_le {H : Type} {d : DataW H} {l : List (DataW H)} (h : d ∈ l) : Rows.uptoBulk d ≤ Rows.uptoBulkAll l := by
  induction l with
  | nil => cases h
  | cons x r ih =>
    simp only [Rows.uptoBulkAll]
    cases List.mem_cons.1 h with
    | inl e => subst e; omega
    | inr e => have := ih e; omega
theorem slice_le {H : Type} (elems spare : List (DataW H)) : elems.length ≤ Rows.uptoBulk (.slice elems spare) := by
  have h1 := length_le elems
  simp only [Rows.uptoBulk]
  omega

set_option maxRecDepth 100000 in
/-- What the walk gives, for every argument within the bound. -/
theorem contract (H : Type) (enc : TypeId × Value → H) (W : World) (base : Nat) (args : Array Value) (ds gs : List (DataW H)) (before : List MemPlace)
    (hval : ∀ (j : Nat) t v, Try.f23.params[j]? = some t → args[j]? = some v → Value.okWide Try.prog W .any base t v)
    (hW : DataW.Whole enc Try.prog Try.f23.params.toList Rows.primeGapsSpec.vars false W args.toList ds gs before) (hk : Rows.uptoSmall H (ds ++ gs) = true) :
    Calls Try.prog 23 args W fun e W' => ∃ v, e = .returned v ∧ Rows.primeGapsSpec.post enc Try.prog Try.f23 false true false false W args v W' := by
  have hW' := hW
  obtain ⟨p, q, hA0, hV, rfl, hfz, hnd⟩ := hW
  have hA : DataW.TrodAll enc Try.prog W 0 (fun _ => true) true Try.f23.params.toList args.toList ds p := hA0
  rw [Try.params23] at hA hval
  obtain ⟨v0, vs0, d0, ds0, p0, q0, hargs, rfl, rfl, h0, r0⟩ := trodAll_cons hA
  obtain ⟨v1, vs1, d1, ds1, p1, q1, rfl, rfl, rfl, h1, r1⟩ := trodAll_cons r0
  obtain ⟨v2, vs2, d2, ds2, p2, q2, rfl, rfl, rfl, h2, r2⟩ := trodAll_cons r1
  obtain ⟨rfl, rfl, rfl⟩ := trodAll_nil r2
  obtain rfl : args = #[v0, v1, v2] := by cases args; simp_all
  obtain ⟨rfl, rfl⟩ := trodVars_none hV
  obtain ⟨n0, rfl, rfl, rfl, w0⟩ := open_int Try.underlying3 (hval 0 3 v0 (by simp) (by simp)) h0
  obtain ⟨n1, rfl, rfl, rfl, w1⟩ := open_int Try.underlying3 (hval 1 3 v1 (by simp) (by simp)) h1
  obtain ⟨n2, rfl, rfl, rfl, w2⟩ := open_int Try.underlying3 (hval 2 3 v2 (by simp) (by simp)) h2
  clear hA0
  simp only [List.append_nil] at hW' hk
  have hbulk : Rows.uptoBulkAll ([.lit (.int .i64 n0), .lit (.int .i64 n1), .lit (.int .i64 n2)] : List (DataW H)) ≤ 1048576 := by simpa [Rows.uptoSmall] using hk
  have b0 : -9223372036854775808 ≤ n0 ∧ n0 ≤ 9223372036854775807 := by simpa [Lit.wf, IntKind.min, IntKind.max, IntKind.signed, IntKind.bits] using w0
  have b1 : -9223372036854775808 ≤ n1 ∧ n1 ≤ 9223372036854775807 := by simpa [Lit.wf, IntKind.min, IntKind.max, IntKind.signed, IntKind.bits] using w1
  have b2 : -9223372036854775808 ≤ n2 ∧ n2 ≤ 9223372036854775807 := by simpa [Lit.wf, IntKind.min, IntKind.max, IntKind.signed, IntKind.bits] using w2
  have spec := law_PrimeGaps n0 b0.1 b0.2 n1 b1.1 b1.2 n2 b2.1 b2.2  
  refine (spec.said Try.func23 (by kernel_rfl) (by kernel_rfl) (argRel3 (.i .i64 n0) (.i .i64 n1) (.i .i64 n2))).mono fun e W' ⟨he, hb⟩ => ?_
  subst he
  have t0 := Below.trod laidOut (by kernel_rfl) (of_decide_eq_true (by kernel_rfl)) h0 hb (fun x hx => by cases hx)
  have t1 := Below.trod laidOut (by kernel_rfl) (of_decide_eq_true (by kernel_rfl)) h1 hb (fun x hx => by cases hx)
  have t2 := Below.trod laidOut (by kernel_rfl) (of_decide_eq_true (by kernel_rfl)) h2 hb (fun x hx => by cases hx)
  refine ⟨_, rfl, _, _, _, [], _, [], hW', ?_, trodAll_cons_mk t0 (trodAll_cons_mk t1 (trodAll_cons_mk t2 (trodAll_mk0))), rfl, hb.frame _, fun h => by cases h⟩
  exact trodAll_mk1 (shut_bool Try.underlying4 true)

set_option maxRecDepth 100000 in
theorem lifted (os : Os) (started : os.Started) (H : Type) (enc : TypeId × Value → H) (F : Stop.Interp) :
    ReturnsInHanded {} Try.checked os 23 .any ((Rows.OpenSpec.upto Rows.primeGapsSpec).pre6 enc Try.prog Try.f23 Rows.primeGapsUptoRow.domain false) (((Rows.OpenSpec.upto Rows.primeGapsSpec).at F).post enc Try.prog Try.f23 false true false false) := by
  refine returnsInHanded_of_cond (C := Try.checked) (s := Rows.OpenSpec.upto Rows.primeGapsSpec) (k := Rows.uptoSmall) rfl own started (by kernel_rfl) Try.func23
    (OpenSpec.witness (enc := enc) (C := Try.checked) (s := Rows.OpenSpec.upto Rows.primeGapsSpec) (k := Rows.uptoSmall) rfl false ⟨#[], #[.int .i64 0, .int .i64 0, .int .i64 0], []⟩ 8 (by kernel_rfl) (by kernel_rfl) (by kernel_rfl)
      (x := ([.lit (.int .i64 0), .lit (.int .i64 0), .lit (.int .i64 0)], [], [])) (by kernel_rfl) rfl (by kernel_rfl)) ?_
  intro W base args ds gs before hval hW _ hk _
  exact contract H enc W base args ds gs before hval hW hk

theorem closed : joinedFacts Try.pinned.checked.prog 23 Try.f23 (Rows.OpenSpec.upto Rows.primeGapsSpec).bare Rows.primeGapsUptoRow = true := by
  unfold joinedFacts
  refine (Bool.and_eq_true _ _).mpr ⟨?_, by kernel_rfl⟩
  refine (Bool.and_eq_true _ _).mpr ⟨?_, by kernel_rfl⟩
  refine (Bool.and_eq_true _ _).mpr ⟨?_, by kernel_rfl⟩
  refine (Bool.and_eq_true _ _).mpr ⟨?_, by kernel_rfl⟩
  refine (Bool.and_eq_true _ _).mpr ⟨?_, made_beq⟩
  refine (Bool.and_eq_true _ _).mpr ⟨?_, final_beq⟩
  refine (Bool.and_eq_true _ _).mpr ⟨?_, enters⟩
  kernel_rfl

theorem named : Try.pinned.checked.prog.funcNamed Rows.primeGapsUptoRow.func = some 23 := by kernel_rfl
theorem inst : Try.f23.isInstance Try.pinned.checked.prog Rows.primeGapsUptoRow.origin Rows.primeGapsUptoRow.targs := of_decide_eq_true (by kernel_rfl)
theorem wrap : Try.f23.isWrapper Try.pinned.checked.prog Rows.primeGapsUptoRow.wrapper Rows.primeGapsUptoRow.mainSum := by
  unfold Func.isWrapper
  rw [if_neg (by decide +kernel)]
  exact ⟨rfl, rfl⟩

theorem over : Rows.primeGapsUptoRow.holds Try.pinned (Rows.OpenSpec.upto Rows.primeGapsSpec) :=
  OpenClaim.holds_of_cond 23 Try.f23 rfl rfl rfl rfl rfl rfl rfl ⟨rfl, rfl, rfl, rfl, rfl⟩ rfl rfl rfl rfl rfl named Try.func23 closed inst wrap
    (fun os started H enc _ F => lifted os started H enc F)

theorem proved : Rows.PrimeGapsUptoSaid :=
  over
end Go.Proofs.Ytphcdigmgbhjcaa.primeGaps
