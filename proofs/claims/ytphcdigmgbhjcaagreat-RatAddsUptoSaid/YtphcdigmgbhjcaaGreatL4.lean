/- How an argument of type api.Rat (an integer and a row of limbs) is read. It names no program. -/
import Derived.Test.YtphcdigmgbhjcaaGreatL3
set_option linter.unusedVariables false
set_option linter.unusedSimpArgs false
namespace Go.Vw
open Go.ChangeShapes Go.WideShapes
open Go.RowKit (Below)

section
variable {H : Type} {enc : TypeId × Value → H} {P : Program} {w : World}

theorem open_ratio {b0 : Nat} {t ti tb tr e : TypeId} {f0 f1 g0 g1 : Field} {k : IntKind} {v : Value} {d : DataW H} {ps : List MemPlace}
    (ht : P.underlying t = some (.struct #[g0, g1])) (hg0 : g0.offset = 0 ∧ g0.type = ti) (hg1 : g1.offset = 2 ∧ g1.type = tr) (hC3 : P.cellsOf t = 3)
    (hti : P.underlying ti = some (.struct #[f0, f1])) (h0 : f0.offset = 0 ∧ f0.type = tb) (h1 : f1.offset = 1 ∧ f1.type = tr) (hC : P.cellsOf ti = 2) (hc0 : P.cellsOf tb = 1) (hc1 : P.cellsOf tr = 1)
    (hts : P.cellTypes P.depth t = some [tb, tr, tr]) (hb : P.underlying tb = some .bool) (hr : P.underlying tr = some (.slice e)) (he : P.underlying e = some (.int k)) (hce : P.cellsOf e = 1)
    (hval : Value.okWide P w .any b0 t v) (hd : DataW.Trod enc P w 0 (fun _ => true) true t v d ps) :
    ∃ (n : Bool) (zs us : List Int) (y z : DataW H), RelV w (fun b => b < w.heap.size) (.agg [.b n, .sl none (zs.map fun z => V.i k z), .sl none (us.map fun z => V.i k z)]) v ∧ (∀ z ∈ zs, (Lit.int k z).wf = true) ∧ (∀ z ∈ us, (Lit.int k z).wf = true) ∧
      d = .agg [.agg [.lit (.bool n), y], z] ∧ (zs = [] ∨ ∃ spare, y = .slice (lits k zs) spare) ∧ (us = [] ∨ ∃ spare, z = .slice (lits k us) spare) := by
  have hval' := hval
  simp only [Value.okWide, ht] at hval'
  obtain ⟨cs, rfl, hcs, ts, hts', _, hcell⟩ := hval'
  rw [hts] at hts'
  cases hts'
  rw [hC3] at hcs
  obtain ⟨fuel, hf⟩ := hd
  obtain ⟨x0, x1, n, hx, _, u0, u1⟩ := trod_struct2 ht hf
  simp only [Prod.mk.injEq] at hx
  obtain ⟨rfl, rfl⟩ := hx
  rw [hg0.1, hg0.2, hC] at u0
  rw [hg1.1, hg1.2, hc1] at u1
  obtain ⟨y0, y1, m, hx, _, t0, t1⟩ := trod_struct2 hti u0
  subst hx
  rw [h0.1, h0.2, hc0] at t0
  rw [h1.1, h1.2, hc1] at t1
  match cs, hcs with
  | ⟨[v0, v1, v2]⟩, _ =>
    simp only [Value.cells, List.drop_zero, List.take_succ_cons, List.take_zero, List.drop_succ_cons] at t0 t1 u1
    obtain ⟨b, hv0, hy0⟩ := DataW.trod_bool hb t0
    simp only [List.cons.injEq, and_true] at hv0
    subst hv0
    subst hy0
    have hv1 : Value.okWide P w .any b0 tr v1 := by
      obtain ⟨u, hu, hc⟩ := hcell 1 v1 (by simp)
      simp at hu
      subst hu
      simpa [Value.okWide, hr] using hc
    have hv2 : Value.okWide P w .any b0 tr v2 := by
      obtain ⟨u, hu, hc⟩ := hcell 2 v2 (by simp)
      simp at hu
      subst hu
      simpa [Value.okWide, hr] using hc
    have hone1 : v1.cells = #[v1] := by
      obtain ⟨a, len, cap, rfl⟩ := okWide_slice hr hv1
      rfl
    have hone2 : v2.cells = #[v2] := by
      obtain ⟨a, len, cap, rfl⟩ := okWide_slice hr hv2
      rfl
    obtain ⟨zs, rel, wf, hd⟩ := open_row (enc := enc) (d := y1.1) (ps := y1.2) hr he hce hv1 ⟨m, by rw [hone1]; exact t1⟩
    obtain ⟨us, rel2, wf2, hd2⟩ := open_row (enc := enc) (d := x1.1) (ps := x1.2) hr he hce hv2 ⟨n, by rw [hone2]; exact u1⟩
    have o1 : v1.oneCell' = true := by obtain ⟨a, len, cap, rfl⟩ := okWide_slice hr hv1; rfl
    have o2 : v2.oneCell' = true := by obtain ⟨a, len, cap, rfl⟩ := okWide_slice hr hv2; rfl
    refine ⟨b, zs, us, y1.1, x1.1, .agg _ _ rfl (fun c hc => ?_) (fun j hj => ?_), wf, wf2, rfl, hd, hd2⟩
    · rcases List.mem_cons.1 (Array.mem_toList_iff.2 hc) with rfl | h
      · rfl
      · rcases List.mem_cons.1 h with rfl | h
        · exact o1
        · rcases List.mem_cons.1 h with rfl | h
          · exact o2
          · cases h
    · match j, hj with
      | 0, _ => exact .b _
      | 1, _ => exact rel
      | 2, _ => exact rel2
end
end Go.Vw
