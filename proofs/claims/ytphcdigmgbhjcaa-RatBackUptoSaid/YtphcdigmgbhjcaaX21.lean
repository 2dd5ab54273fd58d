/- RatBack: texts of fractions read back; for arguments that hold at most 1048576 values and letters together. -/
import Derived.Test.YtphcdigmgbhjcaaML
import Derived.Test.YtphcdigmgbhjcaaL4
import Derived.Test.YtphcdigmgbhjcaaL1
import Derived.Test.YtphcdigmgbhjcaaL2
import Derived.Test.YtphcdigmgbhjcaaRows
import Derived.WalkKit
import Derived.ProofKit
import Derived.JoinedCond
import Derived.OpenShut
import Derived.Carry
import Derived.KernelRfl
set_option linter.unusedVariables false
set_option linter.unusedSimpArgs false
namespace Go.Proofs.Ytphcdigmgbhjcaa.ratBack
open Go.ChangeShapes Go.WideShapes Go.ChangeAt Go.RowKit Go.Vw Go.ChangeMaps

theorem own : ownKnob Try.prog.godebug = none := by kernel_rfl
theorem laidOut : laidOutB Try.prog = true := by kernel_rfl
theorem cells30 : Try.prog.cellsOf 30 = 1 := by kernel_rfl
theorem cells3 : Try.prog.cellsOf 3 = 1 := by kernel_rfl

theorem one_le {H : Type} (d : DataW H) : 1 ≤ Rows.uptoBulk d := by
  cases d with
  | lit l => cases l <;> simp [Rows.uptoBulk]
  | nil => simp [Rows.uptoBulk]
  | ptr d => simp [Rows.uptoBulk]
  | slice elems spare => simp [Rows.uptoBulk]
  | agg parts => simp [Rows.uptoBulk]
  | iface t d => simp [Rows.uptoBulk]
  | map entries => simp [Rows.uptoBulk]
  | held h => simp [Rows.uptoBulk]
theorem cells76 : Try.prog.cellsOf 76 = 3 := by kernel_rfl
theorem types76 : Try.prog.cellTypes Try.prog.depth 76 = some [4, 22, 22] := by kernel_rfl
theorem agg_le1 {H : Type} (n : Bool) (y z : DataW H) : Rows.uptoBulk y ≤ Rows.uptoBulk (.agg [.agg [.lit (.bool n), y], z]) := by
  simp only [Rows.uptoBulk, Rows.uptoBulkAll]
  omega
theorem agg_le2 {H : Type} (n : Bool) (y z : DataW H) : Rows.uptoBulk z ≤ Rows.uptoBulk (.agg [.agg [.lit (.bool n), y], z]) := by
  simp only [Rows.uptoBulk, Rows.uptoBulkAll]
  omega
theorem cells43 : Try.prog.cellsOf 43 = 2 := by kernel_rfl
theorem cells4 : Try.prog.cellsOf 4 = 1 := by kernel_rfl
theorem cells22 : Try.prog.cellsOf 22 = 1 := by kernel_rfl
theorem types43 : Try.prog.cellTypes Try.prog.depth 43 = some [4, 22] := by kernel_rfl
theorem agg_le {H : Type} (n : Bool) (y : DataW H) : Rows.uptoBulk y ≤ Rows.uptoBulk (.agg [.lit (.bool n), y]) := by
  simp only [Rows.uptoBulk, Rows.uptoBulkAll]
  omega
theorem length_le {H : Type} (l : List (DataW H)) : l.length ≤ Rows.uptoBulkAll l := by
  induction l with
  | nil => simp [Rows.uptoBulkAll]
  | cons x r ih => have := one_le x; simp only [Rows.uptoBulkAll, List.length_cons]; omega
theorem part_le {H : Type} {d : DataW H} {l : List (DataW H)} (h : d ∈ l) : Rows.uptoBulk d ≤ Rows.uptoBulkAll l := by
  induction l with
  | nil => cases h
  | cons x r ih =>
    simp only [Rows.uptoBulkAll]
    cases List.mem_cons.1 h with
    | inl e => subst e; omega
    | inr e => have := ih e; omega
theorem slice_le {H : Type} (elems spare : List (DataW H)) : elems.length ≤ Rows.uptoBulk (.slice elems spare) := by
  have h1 := length_le elems
  simp only [Rows.uptoBulk]
  omega

set_option maxRecDepth 100000 in
/-- What the walk gives, for every argument within the bound. -/
theorem contract (H : Type) (enc : TypeId × Value → H) (W : World) (base : Nat) (args : Array Value) (ds gs : List (DataW H)) (before : List MemPlace)
    (hval : ∀ (j : Nat) t v, Try.f29.params[j]? = some t → args[j]? = some v → Value.okWide Try.prog W .any base t v)
    (hW : DataW.Whole enc Try.prog Try.f29.params.toList Rows.ratBackSpec.vars false W args.toList ds gs before) (hk : Rows.uptoSmall H (ds ++ gs) = true) :
    Calls Try.prog 29 args W fun e W' => ∃ v, e = .returned v ∧ Rows.ratBackSpec.post enc Try.prog Try.f29 false true false false W args v W' := by
  have hW' := hW
  obtain ⟨p, q, hA0, hV, rfl, hfz, hnd⟩ := hW
  have hA : DataW.TrodAll enc Try.prog W 0 (fun _ => true) true Try.f29.params.toList args.toList ds p := hA0
  rw [Try.params29] at hA hval
  obtain ⟨v0, vs0, d0, ds0, p0, q0, hargs, rfl, rfl, h0, r0⟩ := trodAll_cons hA
  obtain ⟨v1, vs1, d1, ds1, p1, q1, rfl, rfl, rfl, h1, r1⟩ := trodAll_cons r0
  obtain ⟨rfl, rfl, rfl⟩ := trodAll_nil r1
  obtain rfl : args = #[v0, v1] := by cases args; simp_all
  obtain ⟨rfl, rfl⟩ := trodVars_none hV
  obtain ⟨n0, zs0, us0, y0, z0, rel0, wf0, wg0, rfl, hd0, he0⟩ := open_ratio Try.underlying76 ⟨rfl, rfl⟩ ⟨rfl, rfl⟩ cells76 Try.underlying43 ⟨rfl, rfl⟩ ⟨rfl, rfl⟩ cells43 cells4 cells22 types76 Try.underlying4 Try.underlying22 Try.underlying30 cells30 (hval 0 76 v0 (by simp) (by simp)) h0
  obtain ⟨l0, rfl, hl0⟩ := nats_of wf0
  obtain ⟨m0, rfl, hm0⟩ := nats_of wg0
  obtain ⟨s1, rfl, rfl, rfl, w1⟩ := open_string Try.underlying9 (hval 1 9 v1 (by simp) (by simp)) h1
  clear hA0
  simp only [List.append_nil] at hW' hk
  have hbulk : Rows.uptoBulkAll ([.agg [.agg [.lit (.bool n0), y0], z0], .lit (.string s1.data.toList)] : List (DataW H)) ≤ 1048576 := by simpa [Rows.uptoSmall] using hk
  have b0 : l0.length ≤ 1048576 := by
    rcases hd0 with h | ⟨spare, rfl⟩
    · have : l0 = [] := by simpa using h
      rw [this]; simp
    · have e1 := part_le (H := H) (d := .agg [.agg [.lit (.bool n0), .slice (lits .u64 (l0.map fun x : Nat => (x : Int))) spare], z0]) (l := [.agg [.agg [.lit (.bool n0), .slice (lits .u64 (l0.map fun x : Nat => (x : Int))) spare], z0], .lit (.string s1.data.toList)]) (by simp)
      have e2 := slice_le (H := H) (lits .u64 (l0.map fun x : Nat => (x : Int))) spare
      have e3 : (lits (H := H) .u64 (l0.map fun x : Nat => (x : Int))).length = l0.length := by simp [lits]
      have e4 := agg_le1 (H := H) n0 (.slice (lits .u64 (l0.map fun x : Nat => (x : Int))) spare) z0
      omega
  have c0 : m0.length ≤ 1048576 := by
    rcases he0 with h | ⟨spare, rfl⟩
    · have : m0 = [] := by simpa using h
      rw [this]; simp
    · have e1 := part_le (H := H) (d := .agg [.agg [.lit (.bool n0), y0], .slice (lits .u64 (m0.map fun x : Nat => (x : Int))) spare]) (l := [.agg [.agg [.lit (.bool n0), y0], .slice (lits .u64 (m0.map fun x : Nat => (x : Int))) spare], .lit (.string s1.data.toList)]) (by simp)
      have e2 := slice_le (H := H) (lits .u64 (m0.map fun x : Nat => (x : Int))) spare
      have e3 : (lits (H := H) .u64 (m0.map fun x : Nat => (x : Int))).length = m0.length := by simp [lits]
      have e4 := agg_le2 (H := H) n0 y0 (.slice (lits .u64 (m0.map fun x : Nat => (x : Int))) spare)
      omega
  have rel0' : RelV W (fun b => b < W.heap.size) (rv n0 l0 m0) v0 := by
    have e : (l0.map fun x : Nat => (x : Int)).map (fun z => V.i .u64 z) = uL l0 := by simp [uL]
    have e5 : (m0.map fun x : Nat => (x : Int)).map (fun z => V.i .u64 z) = uL m0 := by simp [uL]
    rw [e, e5] at rel0
    exact rel0
  have zw0 : ZW (2 ^ 24) l0 := ⟨hl0, by omega⟩
  have zu0 : ZW (2 ^ 24) m0 := ⟨hm0, by omega⟩
  have b1 : s1.size ≤ 1048576 := by
    have e1 := part_le (H := H) (d := .lit (.string s1.data.toList)) (l := [.agg [.agg [.lit (.bool n0), y0], z0], .lit (.string s1.data.toList)]) (by simp)
    simp only [Rows.uptoBulk, Array.length_toList] at e1
    have e2 : s1.data.size = s1.size := rfl
    omega
  have c1 : s1.data.toList.length ≤ 2 ^ 40 := by
    have e2 : s1.data.size = s1.size := rfl
    simp only [Array.length_toList]
    omega
  have spec := law_RatBack n0 l0 m0 zw0 zu0 s1.data.toList c1 
  refine (spec.said Try.func29 (by kernel_rfl) (by kernel_rfl) (argRel2 rel0' (.s s1))).mono fun e W' ⟨he, hb⟩ => ?_
  subst he
  have t0 := Below.trod laidOut (by kernel_rfl) (of_decide_eq_true (by kernel_rfl)) h0 hb (fun x hx => hW'.lt x (by simp [hx]))
  have t1 := Below.trod laidOut (by kernel_rfl) (of_decide_eq_true (by kernel_rfl)) h1 hb (fun x hx => by cases hx)
  refine ⟨_, rfl, _, _, _, [], _, [], hW', ?_, trodAll_cons_mk t0 (trodAll_cons_mk t1 (trodAll_mk0)), rfl, hb.frame _, fun h => by cases h⟩
  exact trodAll_mk1 (shut_bool Try.underlying4 true)

set_option maxRecDepth 100000 in
theorem lifted (os : Os) (started : os.Started) (H : Type) (enc : TypeId × Value → H) (F : Stop.Interp) :
    ReturnsInHanded {} Try.checked os 29 .any ((Rows.OpenSpec.upto Rows.ratBackSpec).pre6 enc Try.prog Try.f29 Rows.ratBackUptoRow.domain false) (((Rows.OpenSpec.upto Rows.ratBackSpec).at F).post enc Try.prog Try.f29 false true false false) := by
  refine returnsInHanded_of_cond (C := Try.checked) (s := Rows.OpenSpec.upto Rows.ratBackSpec) (k := Rows.uptoSmall) rfl own started (by kernel_rfl) Try.func29
    (OpenSpec.witness (enc := enc) (C := Try.checked) (s := Rows.OpenSpec.upto Rows.ratBackSpec) (k := Rows.uptoSmall) rfl false ⟨#[], #[.agg #[.bool false, .slice none 0 0, .slice none 0 0], .string ByteArray.empty], []⟩ 8 (by kernel_rfl) (by kernel_rfl) (by kernel_rfl)
      (x := ([.agg [.agg [.lit (.bool false), .nil], .nil], .lit (.string [])], [], [])) (by kernel_rfl) rfl (by kernel_rfl)) ?_
  intro W base args ds gs before hval hW _ hk _
  exact contract H enc W base args ds gs before hval hW hk

theorem closed : joinedFacts Try.pinned.checked.prog 29 Try.f29 (Rows.OpenSpec.upto Rows.ratBackSpec).bare Rows.ratBackUptoRow = true := by
  unfold joinedFacts
  refine (Bool.and_eq_true _ _).mpr ⟨?_, by kernel_rfl⟩
  refine (Bool.and_eq_true _ _).mpr ⟨?_, by kernel_rfl⟩
  refine (Bool.and_eq_true _ _).mpr ⟨?_, by kernel_rfl⟩
  refine (Bool.and_eq_true _ _).mpr ⟨?_, by kernel_rfl⟩
  refine (Bool.and_eq_true _ _).mpr ⟨?_, made_beq⟩
  refine (Bool.and_eq_true _ _).mpr ⟨?_, final_beq⟩
  refine (Bool.and_eq_true _ _).mpr ⟨?_, enters⟩
  kernel_rfl

theorem named : Try.pinned.checked.prog.funcNamed Rows.ratBackUptoRow.func = some 29 := by kernel_rfl
theorem inst : Try.f29.isInstance Try.pinned.checked.prog Rows.ratBackUptoRow.origin Rows.ratBackUptoRow.targs := of_decide_eq_true (by kernel_rfl)
theorem wrap : Try.f29.isWrapper Try.pinned.checked.prog Rows.ratBackUptoRow.wrapper Rows.ratBackUptoRow.mainSum := by
  unfold Func.isWrapper
  rw [if_neg (by decide +kernel)]
  exact ⟨rfl, rfl⟩

theorem over : Rows.ratBackUptoRow.holds Try.pinned (Rows.OpenSpec.upto Rows.ratBackSpec) :=
  OpenClaim.holds_of_cond 29 Try.f29 rfl rfl rfl rfl rfl rfl rfl ⟨rfl, rfl, rfl, rfl, rfl⟩ rfl rfl rfl rfl rfl named Try.func29 closed inst wrap
    (fun os started H enc _ F => lifted os started H enc F)

theorem proved : Rows.RatBackUptoSaid :=
  over
end Go.Proofs.Ytphcdigmgbhjcaa.ratBack
