/- The law ZgcdProducts returns true for every argument of at most 1048576 values and letters. -/
import Derived.Test.YtfdjbmamidmgfaaML
import Derived.Test.YtfdjbmamidmgfaaL5
import Derived.Test.YtfdjbmamidmgfaaL3
import Derived.Test.YtfdjbmamidmgfaaL1
import Derived.Test.YtfdjbmamidmgfaaL2
import Derived.Test.YtfdjbmamidmgfaaRows
import Derived.WalkKit
import Derived.ProofKit
import Derived.JoinedCond
import Derived.OpenShut
import Derived.Carry
import Derived.KernelRfl
set_option linter.unusedVariables false
set_option linter.unusedSimpArgs false
namespace Go.Proofs.Ytfdjbmamidmgfaa.zgcdProducts
open Go.ChangeShapes Go.WideShapes Go.ChangeAt Go.RowKit Go.Vw Go.ChangeMaps

theorem own : ownKnob Try.prog.godebug = none := by kernel_rfl
theorem laidOut : laidOutB Try.prog = true := by kernel_rfl
theorem cells30 : Try.prog.cellsOf 68 = 1 := by kernel_rfl
theorem cells3 : Try.prog.cellsOf 3 = 1 := by kernel_rfl

theorem one_le {H : Type} (d : DataW H) : 1 ≤ Rows.uptoBulk d := by
  cases d with
  | lit l => cases l <;> simp [Rows.uptoBulk]
  | nil => simp [Rows.uptoBulk]
  | ptr d => simp [Rows.uptoBulk]
  | slice elems spare => simp [Rows.uptoBulk]
  | agg parts => simp [Rows.uptoBulk]
  | iface t d => simp [Rows.uptoBulk]
  | map entries => simp [Rows.uptoBulk]
  | held h => simp [Rows.uptoBulk]
theorem cells43 : Try.prog.cellsOf 27 = 2 := by kernel_rfl
theorem cells4 : Try.prog.cellsOf 4 = 1 := by kernel_rfl
theorem cells22 : Try.prog.cellsOf 25 = 1 := by kernel_rfl
theorem types43 : Try.prog.cellTypes Try.prog.depth 27 = some [4, 25] := by kernel_rfl
theorem agg_le {H : Type} (n : Bool) (y : DataW H) : Rows.uptoBulk y ≤ Rows.uptoBulk (.agg [.lit (.bool n), y]) := by
  simp only [Rows.uptoBulk, Rows.uptoBulkAll]
  omega
theorem length_le {H : Type} (l : List (DataW H)) : l.length ≤ Rows.uptoBulkAll l := by
  induction l with
  | nil => simp [Rows.uptoBulkAll]
  | cons x r ih => have := one_le x; simp only [Rows.uptoBulkAll, List.length_cons]; omega
theorem part_le {H : Type} {d : DataW H} {l : List (DataW H)} (h : d ∈ l) : Rows.uptoBulk d ≤ Rows.uptoBulkAll l := by
  induction l with
  | nil => cases h
  | cons x r ih =>
    simp only [Rows.uptoBulkAll]
    cases List.mem_cons.1 h with
    | inl e => subst e; omega
    | inr e => have := ih e; omega
theorem mem_le {H : Type} {d : DataW H} {elems spare : List (DataW H)} (h : d ∈ elems) : Rows.uptoBulk d ≤ Rows.uptoBulk (.slice elems spare) := by
  have h1 := part_le h
  simp only [Rows.uptoBulk]
  omega
theorem slice_le {H : Type} (elems spare : List (DataW H)) : elems.length ≤ Rows.uptoBulk (.slice elems spare) := by
  have h1 := length_le elems
  simp only [Rows.uptoBulk]
  omega

set_option maxRecDepth 100000 in
/-- What the walk gives, for every argument within the bound. -/
theorem contract (H : Type) (enc : TypeId × Value → H) (W : World) (base : Nat) (args : Array Value) (ds gs : List (DataW H)) (before : List MemPlace)
    (hval : ∀ (j : Nat) t v, Try.f4.params[j]? = some t → args[j]? = some v → Value.okWide Try.prog W .any base t v)
    (hW : DataW.Whole enc Try.prog Try.f4.params.toList Rows.zgcdProductsSpec.vars false W args.toList ds gs before) (hk : Rows.uptoSmall H (ds ++ gs) = true) :
    Calls Try.prog 4 args W fun e W' => ∃ v, e = .returned v ∧ Rows.zgcdProductsSpec.post enc Try.prog Try.f4 false true false false W args v W' := by
  have hW' := hW
  obtain ⟨p, q, hA0, hV, rfl, hfz, hnd⟩ := hW
  have hA : DataW.TrodAll enc Try.prog W 0 (fun _ => true) true Try.f4.params.toList args.toList ds p := hA0
  rw [Try.params4] at hA hval
  obtain ⟨v0, vs0, d0, ds0, p0, q0, hargs, rfl, rfl, h0, r0⟩ := trodAll_cons hA
  obtain ⟨v1, vs1, d1, ds1, p1, q1, rfl, rfl, rfl, h1, r1⟩ := trodAll_cons r0
  obtain ⟨v2, vs2, d2, ds2, p2, q2, rfl, rfl, rfl, h2, r2⟩ := trodAll_cons r1
  obtain ⟨v3, vs3, d3, ds3, p3, q3, rfl, rfl, rfl, h3, r3⟩ := trodAll_cons r2
  obtain ⟨rfl, rfl, rfl⟩ := trodAll_nil r3
  obtain rfl : args = #[v0, v1, v2, v3] := by cases args; simp_all
  obtain ⟨rfl, rfl⟩ := trodVars_none hV
  obtain ⟨L0, rel0, wf0, hd0⟩ := open_poly Try.underlying22 Try.underlying27 ⟨rfl, rfl⟩ ⟨rfl, rfl⟩ cells43 cells4 cells22 Try.underlying4 Try.underlying25 Try.underlying68 cells30 (hval 0 22 v0 (by simp) (by simp)) h0
  obtain ⟨M0, rfl, hm0⟩ := polys_of wf0
  obtain ⟨L1, rel1, wf1, hd1⟩ := open_poly Try.underlying22 Try.underlying27 ⟨rfl, rfl⟩ ⟨rfl, rfl⟩ cells43 cells4 cells22 Try.underlying4 Try.underlying25 Try.underlying68 cells30 (hval 1 22 v1 (by simp) (by simp)) h1
  obtain ⟨M1, rfl, hm1⟩ := polys_of wf1
  obtain ⟨L2, rel2, wf2, hd2⟩ := open_poly Try.underlying22 Try.underlying27 ⟨rfl, rfl⟩ ⟨rfl, rfl⟩ cells43 cells4 cells22 Try.underlying4 Try.underlying25 Try.underlying68 cells30 (hval 2 22 v2 (by simp) (by simp)) h2
  obtain ⟨M2, rfl, hm2⟩ := polys_of wf2
  obtain ⟨n3, zs3, y3, rel3, wf3, rfl, hd3⟩ := open_sign Try.underlying27 ⟨rfl, rfl⟩ ⟨rfl, rfl⟩ cells43 cells4 cells22 types43 Try.underlying4 Try.underlying25 Try.underlying68 cells30 (hval 3 27 v3 (by simp) (by simp)) h3
  obtain ⟨l3, rfl, hl3⟩ := nats_of wf3
  clear hA0
  simp only [List.append_nil] at hW' hk
  have hbulk : Rows.uptoBulkAll ([d0, d1, d2, .agg [.lit (.bool n3), y3]] : List (DataW H)) ≤ 1048576 := by simpa [Rows.uptoSmall] using hk
  have b0 : M0.length ≤ 1048576 ∧ ∀ p ∈ M0, p.2.length ≤ 1048576 := by
    rcases hd0 with h | ⟨elems, spare, rfl, hl, hp⟩
    · have : M0 = [] := by simpa using h
      rw [this]; simp
    · have e1 := part_le (H := H) (d := .slice elems spare) (l := [.slice elems spare, d1, d2, .agg [.lit (.bool n3), y3]]) (by simp)
      have e2 := slice_le (H := H) elems spare
      simp only [List.length_map] at hl
      refine ⟨by omega, fun p hpM => ?_⟩
      rcases hp _ (List.mem_map.2 ⟨p, hpM, rfl⟩) with h | ⟨sp, hmem⟩
      · have : p.2 = [] := by simpa using h
        rw [this]; simp
      · have e3 := mem_le (spare := spare) hmem
        dsimp only at e3
        have e4 := agg_le (H := H) p.1 (.slice (lits .u64 (p.2.map fun x : Nat => (x : Int))) sp)
        have e5 := slice_le (H := H) (lits .u64 (p.2.map fun x : Nat => (x : Int))) sp
        have e6 : (lits (H := H) .u64 (p.2.map fun x : Nat => (x : Int))).length = p.2.length := by simp [lits]
        omega
  have rel0' : RelV W (fun b => b < W.heap.size) (.sl (some 2) (zL M0)) v0 := by rw [polys_eq] at rel0; exact rel0
  have pw0 : PW (2 ^ 24) M0 := ⟨by omega, fun p hp => ⟨hm0 p hp, by have := b0.2 p hp; omega⟩⟩
  have b1 : M1.length ≤ 1048576 ∧ ∀ p ∈ M1, p.2.length ≤ 1048576 := by
    rcases hd1 with h | ⟨elems, spare, rfl, hl, hp⟩
    · have : M1 = [] := by simpa using h
      rw [this]; simp
    · have e1 := part_le (H := H) (d := .slice elems spare) (l := [d0, .slice elems spare, d2, .agg [.lit (.bool n3), y3]]) (by simp)
      have e2 := slice_le (H := H) elems spare
      simp only [List.length_map] at hl
      refine ⟨by omega, fun p hpM => ?_⟩
      rcases hp _ (List.mem_map.2 ⟨p, hpM, rfl⟩) with h | ⟨sp, hmem⟩
      · have : p.2 = [] := by simpa using h
        rw [this]; simp
      · have e3 := mem_le (spare := spare) hmem
        dsimp only at e3
        have e4 := agg_le (H := H) p.1 (.slice (lits .u64 (p.2.map fun x : Nat => (x : Int))) sp)
        have e5 := slice_le (H := H) (lits .u64 (p.2.map fun x : Nat => (x : Int))) sp
        have e6 : (lits (H := H) .u64 (p.2.map fun x : Nat => (x : Int))).length = p.2.length := by simp [lits]
        omega
  have rel1' : RelV W (fun b => b < W.heap.size) (.sl (some 2) (zL M1)) v1 := by rw [polys_eq] at rel1; exact rel1
  have pw1 : PW (2 ^ 24) M1 := ⟨by omega, fun p hp => ⟨hm1 p hp, by have := b1.2 p hp; omega⟩⟩
  have b2 : M2.length ≤ 1048576 ∧ ∀ p ∈ M2, p.2.length ≤ 1048576 := by
    rcases hd2 with h | ⟨elems, spare, rfl, hl, hp⟩
    · have : M2 = [] := by simpa using h
      rw [this]; simp
    · have e1 := part_le (H := H) (d := .slice elems spare) (l := [d0, d1, .slice elems spare, .agg [.lit (.bool n3), y3]]) (by simp)
      have e2 := slice_le (H := H) elems spare
      simp only [List.length_map] at hl
      refine ⟨by omega, fun p hpM => ?_⟩
      rcases hp _ (List.mem_map.2 ⟨p, hpM, rfl⟩) with h | ⟨sp, hmem⟩
      · have : p.2 = [] := by simpa using h
        rw [this]; simp
      · have e3 := mem_le (spare := spare) hmem
        dsimp only at e3
        have e4 := agg_le (H := H) p.1 (.slice (lits .u64 (p.2.map fun x : Nat => (x : Int))) sp)
        have e5 := slice_le (H := H) (lits .u64 (p.2.map fun x : Nat => (x : Int))) sp
        have e6 : (lits (H := H) .u64 (p.2.map fun x : Nat => (x : Int))).length = p.2.length := by simp [lits]
        omega
  have rel2' : RelV W (fun b => b < W.heap.size) (.sl (some 2) (zL M2)) v2 := by rw [polys_eq] at rel2; exact rel2
  have pw2 : PW (2 ^ 24) M2 := ⟨by omega, fun p hp => ⟨hm2 p hp, by have := b2.2 p hp; omega⟩⟩
  have b3 : l3.length ≤ 1048576 := by
    rcases hd3 with h | ⟨spare, rfl⟩
    · have : l3 = [] := by simpa using h
      rw [this]; simp
    · have e1 := part_le (H := H) (d := .agg [.lit (.bool n3), .slice (lits .u64 (l3.map fun x : Nat => (x : Int))) spare]) (l := [d0, d1, d2, .agg [.lit (.bool n3), .slice (lits .u64 (l3.map fun x : Nat => (x : Int))) spare]]) (by simp)
      have e2 := slice_le (H := H) (lits .u64 (l3.map fun x : Nat => (x : Int))) spare
      have e3 : (lits (H := H) .u64 (l3.map fun x : Nat => (x : Int))).length = l3.length := by simp [lits]
      have e4 := agg_le (H := H) n3 (.slice (lits .u64 (l3.map fun x : Nat => (x : Int))) spare)
      omega
  have rel3' : RelV W (fun b => b < W.heap.size) (zv n3 l3) v3 := by
    have e : (l3.map fun x : Nat => (x : Int)).map (fun z => V.i .u64 z) = uL l3 := by simp [uL]
    rw [e] at rel3
    exact rel3
  have zw3 : ZW (2 ^ 24) l3 := ⟨hl3, by omega⟩
  have spec := law_ZgcdProducts M0 M1 M2 pw0 pw1 pw2 n3 l3 zw3 
  refine (spec.said Try.func4 (by kernel_rfl) (by kernel_rfl) (argRel4 rel0' rel1' rel2' rel3')).mono fun e W' ⟨he, hb⟩ => ?_
  subst he
  have t0 := Below.trod laidOut (by kernel_rfl) (of_decide_eq_true (by kernel_rfl)) h0 hb (fun x hx => hW'.lt x (by simp [hx]))
  have t1 := Below.trod laidOut (by kernel_rfl) (of_decide_eq_true (by kernel_rfl)) h1 hb (fun x hx => hW'.lt x (by simp [hx]))
  have t2 := Below.trod laidOut (by kernel_rfl) (of_decide_eq_true (by kernel_rfl)) h2 hb (fun x hx => hW'.lt x (by simp [hx]))
  have t3 := Below.trod laidOut (by kernel_rfl) (of_decide_eq_true (by kernel_rfl)) h3 hb (fun x hx => hW'.lt x (by simp [hx]))
  refine ⟨_, rfl, _, _, _, [], _, [], hW', ?_, trodAll_cons_mk t0 (trodAll_cons_mk t1 (trodAll_cons_mk t2 (trodAll_cons_mk t3 (trodAll_mk0)))), rfl, hb.frame _, fun h => by cases h⟩
  exact trodAll_mk1 (shut_bool Try.underlying4 true)

set_option maxRecDepth 100000 in
theorem lifted (os : Os) (started : os.Started) (H : Type) (enc : TypeId × Value → H) (F : Stop.Interp) :
    ReturnsInHanded {} Try.checked os 4 .any ((Rows.OpenSpec.upto Rows.zgcdProductsSpec).pre6 enc Try.prog Try.f4 Rows.zgcdProductsUptoRow.domain false) (((Rows.OpenSpec.upto Rows.zgcdProductsSpec).at F).post enc Try.prog Try.f4 false true false false) := by
  refine returnsInHanded_of_cond (C := Try.checked) (s := Rows.OpenSpec.upto Rows.zgcdProductsSpec) (k := Rows.uptoSmall) rfl own started (by kernel_rfl) Try.func4
    (OpenSpec.witness (enc := enc) (C := Try.checked) (s := Rows.OpenSpec.upto Rows.zgcdProductsSpec) (k := Rows.uptoSmall) rfl false ⟨#[], #[.slice none 0 0, .slice none 0 0, .slice none 0 0, .agg #[.bool false, .slice none 0 0]], []⟩ 8 (by kernel_rfl) (by kernel_rfl) (by kernel_rfl)
      (x := ([.nil, .nil, .nil, .agg [.lit (.bool false), .nil]], [], [])) (by kernel_rfl) rfl (by kernel_rfl)) ?_
  intro W base args ds gs before hval hW _ hk _
  exact contract H enc W base args ds gs before hval hW hk

theorem closed : joinedFacts Try.pinned.checked.prog 4 Try.f4 (Rows.OpenSpec.upto Rows.zgcdProductsSpec).bare Rows.zgcdProductsUptoRow = true := by
  unfold joinedFacts
  refine (Bool.and_eq_true _ _).mpr ⟨?_, by kernel_rfl⟩
  refine (Bool.and_eq_true _ _).mpr ⟨?_, by kernel_rfl⟩
  refine (Bool.and_eq_true _ _).mpr ⟨?_, by kernel_rfl⟩
  refine (Bool.and_eq_true _ _).mpr ⟨?_, by kernel_rfl⟩
  refine (Bool.and_eq_true _ _).mpr ⟨?_, made_beq⟩
  refine (Bool.and_eq_true _ _).mpr ⟨?_, final_beq⟩
  refine (Bool.and_eq_true _ _).mpr ⟨?_, enters⟩
  kernel_rfl

theorem named : Try.pinned.checked.prog.funcNamed Rows.zgcdProductsUptoRow.func = some 4 := by kernel_rfl
theorem inst : Try.f4.isInstance Try.pinned.checked.prog Rows.zgcdProductsUptoRow.origin Rows.zgcdProductsUptoRow.targs := of_decide_eq_true (by kernel_rfl)
theorem wrap : Try.f4.isWrapper Try.pinned.checked.prog Rows.zgcdProductsUptoRow.wrapper Rows.zgcdProductsUptoRow.mainSum := by
  unfold Func.isWrapper
  rw [if_neg (by decide +kernel)]
  exact ⟨rfl, rfl⟩

theorem over : Rows.zgcdProductsUptoRow.holds Try.pinned (Rows.OpenSpec.upto Rows.zgcdProductsSpec) :=
  OpenClaim.holds_of_cond 4 Try.f4 rfl rfl rfl rfl rfl rfl rfl ⟨rfl, rfl, rfl, rfl, rfl⟩ rfl rfl rfl rfl rfl named Try.func4 closed inst wrap
    (fun os started H enc _ F => lifted os started H enc F)

theorem proved : Rows.ZgcdProductsUptoSaid :=
  over
end Go.Proofs.Ytfdjbmamidmgfaa.zgcdProducts
