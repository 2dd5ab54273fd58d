/- RatAdds: sums, differences, products, quotients of any fractions; for arguments that hold at most 1048576 values together. -/
import Derived.Test.YtphcdigmgbhjcaaGreatML
import Derived.Test.YtphcdigmgbhjcaaGreatL4
import Derived.Test.YtphcdigmgbhjcaaGreatL1
import Derived.Test.YtphcdigmgbhjcaaGreatL2
import Derived.Test.YtphcdigmgbhjcaaGreatRows
import Derived.WalkKit
import Derived.ProofKit
import Derived.JoinedCond
import Derived.OpenShut
import Derived.Carry
import Derived.KernelRfl
set_option linter.unusedVariables false
set_option linter.unusedSimpArgs false
namespace Go.Proofs.YtphcdigmgbhjcaaGreat.ratAdds
open Go.ChangeShapes Go.WideShapes Go.ChangeAt Go.RowKit Go.Vw Go.ChangeMaps

theorem own : ownKnob Tryz.prog.godebug = none := by kernel_rfl
theorem laidOut : laidOutB Tryz.prog = true := by kernel_rfl
theorem cells30 : Tryz.prog.cellsOf 78 = 1 := by kernel_rfl
theorem cells3 : Tryz.prog.cellsOf 3 = 1 := by kernel_rfl

theorem one_le {H : Type} (d : DataW H) : 1 ≤ Rows.uptoBulk d := by
  cases d with
  | lit l => cases l <;> simp [Rows.uptoBulk]
  | nil => simp [Rows.uptoBulk]
  | ptr d => simp [Rows.uptoBulk]
  | slice elems spare => simp [Rows.uptoBulk]
  | agg parts => simp [Rows.uptoBulk]
  | iface t d => simp [Rows.uptoBulk]
  | map entries => simp [Rows.uptoBulk]
  | held h => simp [Rows.uptoBulk]
theorem cells76 : Tryz.prog.cellsOf 33 = 3 := by kernel_rfl
theorem types76 : Tryz.prog.cellTypes Tryz.prog.depth 33 = some [4, 22, 22] := by kernel_rfl
theorem agg_le1 {H : Type} (n : Bool) (y z : DataW H) : Rows.uptoBulk y ≤ Rows.uptoBulk (.agg [.agg [.lit (.bool n), y], z]) := by
  simp only [Rows.uptoBulk, Rows.uptoBulkAll]
  omega
theorem agg_le2 {H : Type} (n : Bool) (y z : DataW H) : Rows.uptoBulk z ≤ Rows.uptoBulk (.agg [.agg [.lit (.bool n), y], z]) := by
  simp only [Rows.uptoBulk, Rows.uptoBulkAll]
  omega
theorem cells43 : Tryz.prog.cellsOf 24 = 2 := by kernel_rfl
theorem cells4 : Tryz.prog.cellsOf 4 = 1 := by kernel_rfl
theorem cells22 : Tryz.prog.cellsOf 22 = 1 := by kernel_rfl
theorem types43 : Tryz.prog.cellTypes Tryz.prog.depth 24 = some [4, 22] := by kernel_rfl
theorem agg_le {H : Type} (n : Bool) (y : DataW H) : Rows.uptoBulk y ≤ Rows.uptoBulk (.agg [.lit (.bool n), y]) := by
  simp only [Rows.uptoBulk, Rows.uptoBulkAll]
  omega
theorem length_le {H : Type} (l : List (DataW H)) : l.length ≤ Rows.uptoBulkAll l := by
  induction l with
  | nil => simp [Rows.uptoBulkAll]
  | cons x r ih => have := one_le x; simp only [Rows.uptoBulkAll, List.length_cons]; omega
theorem part_le {H : Type} {d : DataW H} {l : List (DataW H)} (h : d ∈ l) : Rows.uptoBulk d ≤ Rows.uptoBulkAll l := by
  induction l with
  | nil => cases h
  | cons x r ih =>
    simp only [Rows.uptoBulkAll]
    cases List.mem_cons.1 h with
    | inl e => subst e; omega
    | inr e => have := ih e; omega
theorem slice_le {H : Type} (elems spare : List (DataW H)) : elems.length ≤ Rows.uptoBulk (.slice elems spare) := by
  have h1 := length_le elems
  simp only [Rows.uptoBulk]
  omega

set_option maxRecDepth 100000 in
/-- What the walk gives, for every argument within the bound. -/
theorem contract (H : Type) (enc : TypeId × Value → H) (W : World) (base : Nat) (args : Array Value) (ds gs : List (DataW H)) (before : List MemPlace)
    (hval : ∀ (j : Nat) t v, Tryz.f7.params[j]? = some t → args[j]? = some v → Value.okWide Tryz.prog W .any base t v)
    (hW : DataW.Whole enc Tryz.prog Tryz.f7.params.toList Rows.ratAddsSpec.vars false W args.toList ds gs before) (hk : Rows.uptoSmall H (ds ++ gs) = true) :
    Calls Tryz.prog 7 args W fun e W' => ∃ v, e = .returned v ∧ Rows.ratAddsSpec.post enc Tryz.prog Tryz.f7 false true false false W args v W' := by
  have hW' := hW
  obtain ⟨p, q, hA0, hV, rfl, hfz, hnd⟩ := hW
  have hA : DataW.TrodAll enc Tryz.prog W 0 (fun _ => true) true Tryz.f7.params.toList args.toList ds p := hA0
  rw [Tryz.params7] at hA hval
  obtain ⟨v0, vs0, d0, ds0, p0, q0, hargs, rfl, rfl, h0, r0⟩ := trodAll_cons hA
  obtain ⟨v1, vs1, d1, ds1, p1, q1, rfl, rfl, rfl, h1, r1⟩ := trodAll_cons r0
  obtain ⟨rfl, rfl, rfl⟩ := trodAll_nil r1
  obtain rfl : args = #[v0, v1] := by cases args; simp_all
  obtain ⟨rfl, rfl⟩ := trodVars_none hV
  obtain ⟨n0, zs0, us0, y0, z0, rel0, wf0, wg0, rfl, hd0, he0⟩ := open_ratio Tryz.underlying33 ⟨rfl, rfl⟩ ⟨rfl, rfl⟩ cells76 Tryz.underlying24 ⟨rfl, rfl⟩ ⟨rfl, rfl⟩ cells43 cells4 cells22 types76 Tryz.underlying4 Tryz.underlying22 Tryz.underlying78 cells30 (hval 0 33 v0 (by simp) (by simp)) h0
  obtain ⟨l0, rfl, hl0⟩ := nats_of wf0
  obtain ⟨m0, rfl, hm0⟩ := nats_of wg0
  obtain ⟨n1, zs1, us1, y1, z1, rel1, wf1, wg1, rfl, hd1, he1⟩ := open_ratio Tryz.underlying33 ⟨rfl, rfl⟩ ⟨rfl, rfl⟩ cells76 Tryz.underlying24 ⟨rfl, rfl⟩ ⟨rfl, rfl⟩ cells43 cells4 cells22 types76 Tryz.underlying4 Tryz.underlying22 Tryz.underlying78 cells30 (hval 1 33 v1 (by simp) (by simp)) h1
  obtain ⟨l1, rfl, hl1⟩ := nats_of wf1
  obtain ⟨m1, rfl, hm1⟩ := nats_of wg1
  clear hA0
  simp only [List.append_nil] at hW' hk
  have hbulk : Rows.uptoBulkAll ([.agg [.agg [.lit (.bool n0), y0], z0], .agg [.agg [.lit (.bool n1), y1], z1]] : List (DataW H)) ≤ 1048576 := by simpa [Rows.uptoSmall] using hk
  have b0 : l0.length ≤ 1048576 := by
    rcases hd0 with h | ⟨spare, rfl⟩
    · have : l0 = [] := by simpa using h
      rw [this]; simp
    · have e1 := part_le (H := H) (d := .agg [.agg [.lit (.bool n0), .slice (lits .u64 (l0.map fun x : Nat => (x : Int))) spare], z0]) (l := [.agg [.agg [.lit (.bool n0), .slice (lits .u64 (l0.map fun x : Nat => (x : Int))) spare], z0], .agg [.agg [.lit (.bool n1), y1], z1]]) (by simp)
      have e2 := slice_le (H := H) (lits .u64 (l0.map fun x : Nat => (x : Int))) spare
      have e3 : (lits (H := H) .u64 (l0.map fun x : Nat => (x : Int))).length = l0.length := by simp [lits]
      have e4 := agg_le1 (H := H) n0 (.slice (lits .u64 (l0.map fun x : Nat => (x : Int))) spare) z0
      omega
  have c0 : m0.length ≤ 1048576 := by
    rcases he0 with h | ⟨spare, rfl⟩
    · have : m0 = [] := by simpa using h
      rw [this]; simp
    · have e1 := part_le (H := H) (d := .agg [.agg [.lit (.bool n0), y0], .slice (lits .u64 (m0.map fun x : Nat => (x : Int))) spare]) (l := [.agg [.agg [.lit (.bool n0), y0], .slice (lits .u64 (m0.map fun x : Nat => (x : Int))) spare], .agg [.agg [.lit (.bool n1), y1], z1]]) (by simp)
      have e2 := slice_le (H := H) (lits .u64 (m0.map fun x : Nat => (x : Int))) spare
      have e3 : (lits (H := H) .u64 (m0.map fun x : Nat => (x : Int))).length = m0.length := by simp [lits]
      have e4 := agg_le2 (H := H) n0 y0 (.slice (lits .u64 (m0.map fun x : Nat => (x : Int))) spare)
      omega
  have rel0' : RelV W (fun b => b < W.heap.size) (rv n0 l0 m0) v0 := by
    have e : (l0.map fun x : Nat => (x : Int)).map (fun z => V.i .u64 z) = uL l0 := by simp [uL]
    have e5 : (m0.map fun x : Nat => (x : Int)).map (fun z => V.i .u64 z) = uL m0 := by simp [uL]
    rw [e, e5] at rel0
    exact rel0
  have zw0 : ZW (2 ^ 24) l0 := ⟨hl0, by omega⟩
  have zu0 : ZW (2 ^ 24) m0 := ⟨hm0, by omega⟩
  have b1 : l1.length ≤ 1048576 := by
    rcases hd1 with h | ⟨spare, rfl⟩
    · have : l1 = [] := by simpa using h
      rw [this]; simp
    · have e1 := part_le (H := H) (d := .agg [.agg [.lit (.bool n1), .slice (lits .u64 (l1.map fun x : Nat => (x : Int))) spare], z1]) (l := [.agg [.agg [.lit (.bool n0), y0], z0], .agg [.agg [.lit (.bool n1), .slice (lits .u64 (l1.map fun x : Nat => (x : Int))) spare], z1]]) (by simp)
      have e2 := slice_le (H := H) (lits .u64 (l1.map fun x : Nat => (x : Int))) spare
      have e3 : (lits (H := H) .u64 (l1.map fun x : Nat => (x : Int))).length = l1.length := by simp [lits]
      have e4 := agg_le1 (H := H) n1 (.slice (lits .u64 (l1.map fun x : Nat => (x : Int))) spare) z1
      omega
  have c1 : m1.length ≤ 1048576 := by
    rcases he1 with h | ⟨spare, rfl⟩
    · have : m1 = [] := by simpa using h
      rw [this]; simp
    · have e1 := part_le (H := H) (d := .agg [.agg [.lit (.bool n1), y1], .slice (lits .u64 (m1.map fun x : Nat => (x : Int))) spare]) (l := [.agg [.agg [.lit (.bool n0), y0], z0], .agg [.agg [.lit (.bool n1), y1], .slice (lits .u64 (m1.map fun x : Nat => (x : Int))) spare]]) (by simp)
      have e2 := slice_le (H := H) (lits .u64 (m1.map fun x : Nat => (x : Int))) spare
      have e3 : (lits (H := H) .u64 (m1.map fun x : Nat => (x : Int))).length = m1.length := by simp [lits]
      have e4 := agg_le2 (H := H) n1 y1 (.slice (lits .u64 (m1.map fun x : Nat => (x : Int))) spare)
      omega
  have rel1' : RelV W (fun b => b < W.heap.size) (rv n1 l1 m1) v1 := by
    have e : (l1.map fun x : Nat => (x : Int)).map (fun z => V.i .u64 z) = uL l1 := by simp [uL]
    have e5 : (m1.map fun x : Nat => (x : Int)).map (fun z => V.i .u64 z) = uL m1 := by simp [uL]
    rw [e, e5] at rel1
    exact rel1
  have zw1 : ZW (2 ^ 24) l1 := ⟨hl1, by omega⟩
  have zu1 : ZW (2 ^ 24) m1 := ⟨hm1, by omega⟩
  have spec := law_RatAdds n0 n1 l0 l1 m0 m1 zw0 zu0 zw1 zu1  
  refine (spec.said Tryz.func7 (by kernel_rfl) (by kernel_rfl) (argRel2 rel0' rel1')).mono fun e W' ⟨he, hb⟩ => ?_
  subst he
  have t0 := Below.trod laidOut (by kernel_rfl) (of_decide_eq_true (by kernel_rfl)) h0 hb (fun x hx => hW'.lt x (by simp [hx]))
  have t1 := Below.trod laidOut (by kernel_rfl) (of_decide_eq_true (by kernel_rfl)) h1 hb (fun x hx => hW'.lt x (by simp [hx]))
  refine ⟨_, rfl, _, _, _, [], _, [], hW', ?_, trodAll_cons_mk t0 (trodAll_cons_mk t1 (trodAll_mk0)), rfl, hb.frame _, fun h => by cases h⟩
  exact trodAll_mk1 (shut_bool Tryz.underlying4 true)

set_option maxRecDepth 100000 in
theorem lifted (os : Os) (started : os.Started) (H : Type) (enc : TypeId × Value → H) (F : Stop.Interp) :
    ReturnsInHanded {} Tryz.checked os 7 .any ((Rows.OpenSpec.upto Rows.ratAddsSpec).pre6 enc Tryz.prog Tryz.f7 Rows.ratAddsUptoRow.domain false) (((Rows.OpenSpec.upto Rows.ratAddsSpec).at F).post enc Tryz.prog Tryz.f7 false true false false) := by
  refine returnsInHanded_of_cond (C := Tryz.checked) (s := Rows.OpenSpec.upto Rows.ratAddsSpec) (k := Rows.uptoSmall) rfl own started (by kernel_rfl) Tryz.func7
    (OpenSpec.witness (enc := enc) (C := Tryz.checked) (s := Rows.OpenSpec.upto Rows.ratAddsSpec) (k := Rows.uptoSmall) rfl false ⟨#[], #[.agg #[.bool false, .slice none 0 0, .slice none 0 0], .agg #[.bool false, .slice none 0 0, .slice none 0 0]], []⟩ 8 (by kernel_rfl) (by kernel_rfl) (by kernel_rfl)
      (x := ([.agg [.agg [.lit (.bool false), .nil], .nil], .agg [.agg [.lit (.bool false), .nil], .nil]], [], [])) (by kernel_rfl) rfl (by kernel_rfl)) ?_
  intro W base args ds gs before hval hW _ hk _
  exact contract H enc W base args ds gs before hval hW hk

theorem closed : joinedFacts Tryz.pinned.checked.prog 7 Tryz.f7 (Rows.OpenSpec.upto Rows.ratAddsSpec).bare Rows.ratAddsUptoRow = true := by
  unfold joinedFacts
  refine (Bool.and_eq_true _ _).mpr ⟨?_, by kernel_rfl⟩
  refine (Bool.and_eq_true _ _).mpr ⟨?_, by kernel_rfl⟩
  refine (Bool.and_eq_true _ _).mpr ⟨?_, by kernel_rfl⟩
  refine (Bool.and_eq_true _ _).mpr ⟨?_, by kernel_rfl⟩
  refine (Bool.and_eq_true _ _).mpr ⟨?_, made_beq⟩
  refine (Bool.and_eq_true _ _).mpr ⟨?_, final_beq⟩
  refine (Bool.and_eq_true _ _).mpr ⟨?_, enters⟩
  kernel_rfl

theorem named : Tryz.pinned.checked.prog.funcNamed Rows.ratAddsUptoRow.func = some 7 := by kernel_rfl
theorem inst : Tryz.f7.isInstance Tryz.pinned.checked.prog Rows.ratAddsUptoRow.origin Rows.ratAddsUptoRow.targs := of_decide_eq_true (by kernel_rfl)
theorem wrap : Tryz.f7.isWrapper Tryz.pinned.checked.prog Rows.ratAddsUptoRow.wrapper Rows.ratAddsUptoRow.mainSum := by
  unfold Func.isWrapper
  rw [if_neg (by decide +kernel)]
  exact ⟨rfl, rfl⟩

theorem over : Rows.ratAddsUptoRow.holds Tryz.pinned (Rows.OpenSpec.upto Rows.ratAddsSpec) :=
  OpenClaim.holds_of_cond 7 Tryz.f7 rfl rfl rfl rfl rfl rfl rfl ⟨rfl, rfl, rfl, rfl, rfl⟩ rfl rfl rfl rfl rfl named Tryz.func7 closed inst wrap
    (fun os started H enc _ F => lifted os started H enc F)

theorem proved : Rows.RatAddsUptoSaid :=
  over
end Go.Proofs.YtphcdigmgbhjcaaGreat.ratAdds
