/- TopPowers: for every three numbers the law returns true: the lifted contract. -/
import Derived.Test.YtimgjgookgenoaaGreatDoorTC
import Derived.Test.YtimgjgookgenoaaGreatDoorCards
import Derived.Test.YtimgjgookgenoaaGreatDoorTPp
import Derived.ChangeSame
import Derived.ChangeVars
import Derived.JoinedOf
import Derived.RowKit
import Derived.RowKitTokens
import Derived.LaidLaws
import Derived.LaidHandle
import Derived.Stop.Joined
import Derived.WalkKit
import Derived.ProofKit
import Derived.OpenShut
import Derived.Deep.DeepHandedRow
import Derived.SevenTiedAt
set_option linter.unusedVariables false
set_option linter.unusedSimpArgs false
set_option linter.unusedSectionVars false
namespace Go.Proofs.YtimgjgookgenoaaGreatDoor.topPowers
open Go.ChangeShapes Go.WideShapes Go.ChangeAt Go.RowKit
open Go.Zw (Bs HeapOK Keep RelZ Z ZO top_spec)
set_option maxRecDepth 100000

theorem own : ownKnob Tryz.prog.godebug = none := by kernel_rfl
theorem et : Tryz.prog.globalNamed "errors.errorType" = some 4 := by kernel_rfl
theorem rt : (Tryz.prog.cutTypes.find? (·.1 == "internal/reflectlite.rtype")).map (·.2) = some 312 := by kernel_rfl
theorem oneRow : ((List.range 634).filter fun t => Tryz.prog.rowNamed t [101, 114, 114, 111, 114]) = [57] := by kernel_rfl
theorem size : Tryz.prog.types.size = 634 := by kernel_rfl

/-- What the condition gives: the variable's one cell. -/
theorem handle_of_laid {W : World} (h : laidMetH Tryz.prog Rows.topPowersRow.laid W) : W.cell? ⟨4, 0, none⟩ = some (.iface 312 (.agg #[.pointer (some ⟨15, 57, none⟩)])) := by
  obtain ⟨_, h2⟩ : laidMet Tryz.prog (Rows.topPowersRow.laid.filter fun x => x.2.handleName?.isNone) W ∧ handlesMet Tryz.prog [("errors.errorType", Rows.laid_errors_errorType)] W := h
  obtain ⟨name, u, ty, e1, e2, e3, e4, e5⟩ := h2 _ (List.mem_singleton.2 rfl)
  have en : name = [101, 114, 114, 111, 114] := (Option.some.inj e1).symm
  subst en
  obtain rfl := Option.some.inj (rt.symm.trans e2)
  have hm : ty ∈ (List.range 634).filter fun t => Tryz.prog.rowNamed t [101, 114, 114, 111, 114] := List.mem_filter.2 ⟨List.mem_range.2 (by rw [← size]; exact e3), e4⟩
  rw [oneRow] at hm
  obtain rfl := List.mem_singleton.1 hm
  have hh : typeHandle Tryz.prog 57 = .pointer (some ⟨15, 57, none⟩) := by kernel_rfl
  rw [hh] at e5
  simpa using World.var?_cell et e5 0

/-- The walk. -/
theorem walk (a b n : Int) (W : World) (hg : W.cell? ⟨4, 0, none⟩ = some (.iface 312 (.agg #[.pointer (some ⟨15, 57, none⟩)]))) :
    Calls Tryz.prog 4 #[.int .i64 a, .int .i64 b, .int .i64 n] W fun e w' => e = .returned (.bool true) ∧ Below W.heap.size W w' := by
  have hlt : 4 < W.heap.size := by
    rcases Nat.lt_or_ge 4 W.heap.size with h | h
    · exact h
    · simp [World.cell?, Array.getElem?_eq_none h] at hg
  obtain ⟨w0, hw0⟩ : ∃ w0 : Bs, w0 = ⟨W, fun _ => (0, 0), 0, fun b => b < W.heap.size, fun b h => h, []⟩ := ⟨_, rfl⟩
  have H : HeapOK W w0 (fun _ => (0, 0)) 0 (fun _ => none) := by
    subst hw0
    exact ⟨fun r o h => (by cases h), fun r r' h => absurd rfl h, Nat.le_refl _, fun r hr => rfl⟩
  have K : Keep w0 W := by
    subst hw0
    refine ⟨rfl, rfl, rfl, Nat.le_refl _, fun _ _ => rfl, fun k v hk => ?_⟩
    unfold Go.Zw.layV at hk
    split at hk
    · rename_i e
      subst e
      rw [← Option.some.inj hk]
      exact ⟨hlt, hg⟩
    · cases hk
  rcases top_spec a b n w0 W (fun _ => (0, 0)) #[.int .i64 a, .int .i64 b, .int .i64 n] H K rfl (fun j hj => by
    have : j = 0 ∨ j = 1 ∨ j = 2 := by simp at hj; omega
    rcases this with rfl | rfl | rfl
    · exact .i .i64 a
    · exact .i .i64 b
    · exact .i .i64 n) with ⟨_, hc⟩ | ⟨v, hv, _⟩
  · refine hc.mono ?_
    rintro e w' ⟨h', nx', zs, vs, μ', rfl, rfl, _, _, _, K', hl, hr⟩
    have h0 := hr 0 (by simp)
    match vs, hl with
    | [x], _ =>
      have h0 : RelZ μ' nx' (.b true) x := h0
      cases h0
      subst hw0
      exact ⟨rfl, K'.os, K'.tape, K'.output, K'.size, fun k hk => K'.block k hk⟩
  · rw [Go.Vw.enters_run Tryz.func4 (by kernel_rfl) (by kernel_rfl)] at hv
    cases hv

theorem contract (H : Type) (enc : TypeId × Value → H) (W : World) (base : Nat) (args : Array Value) (ds gs : List (DataW H)) (before : List MemPlace)
    (hval : ∀ (j : Nat) t v, Tryz.f4.params[j]? = some t → args[j]? = some v → Value.okWide Tryz.prog W .any base t v)
    (hW : DataW.Whole enc Tryz.prog Tryz.f4.params.toList Rows.topPowersSpec.vars false W args.toList ds gs before) (hL : laidMetH Tryz.prog Rows.topPowersRow.laid W) :
    Calls Tryz.prog 4 args W fun e W' => ∃ v, e = .returned v ∧ Rows.topPowersSpec.post enc Tryz.prog Tryz.f4 false true false false W args v W' := by
  have hW' := hW
  obtain ⟨p, q, hA0, hV, rfl, hfz, hnd⟩ := hW
  have hA : DataW.TrodAll enc Tryz.prog W 0 (fun _ => true) true Tryz.f4.params.toList args.toList ds p := hA0
  rw [Tryz.params4] at hA hval
  obtain ⟨v0, vs0, d0, ds0, p0, q0, hargs, rfl, rfl, h0, r0⟩ := trodAll_cons hA
  obtain ⟨v1, vs1, d1, ds1, p1, q1, rfl, rfl, rfl, h1, r1⟩ := trodAll_cons r0
  obtain ⟨v2, vs2, d2, ds2, p2, q2, rfl, rfl, rfl, h2, r2⟩ := trodAll_cons r1
  obtain ⟨rfl, rfl, rfl⟩ := trodAll_nil r2
  obtain rfl : args = #[v0, v1, v2] := by cases args; simp_all
  obtain ⟨rfl, rfl⟩ := trodVars_none hV
  obtain ⟨a, rfl, rfl, rfl, wa⟩ := open_int Tryz.underlying3 (hval 0 3 v0 rfl rfl) h0
  obtain ⟨b, rfl, rfl, rfl, wb⟩ := open_int Tryz.underlying3 (hval 1 3 v1 rfl rfl) h1
  obtain ⟨n, rfl, rfl, rfl, wn⟩ := open_int Tryz.underlying3 (hval 2 3 v2 rfl rfl) h2
  clear hA0
  simp only [List.append_nil] at hW'
  refine (walk a b n W (handle_of_laid hL)).mono fun e W' ⟨he, hb⟩ => ?_
  subst he
  refine ⟨_, rfl, _, _, _, [], _, [], hW', trodAll_mk1 (shut_bool Tryz.underlying4 true), trodAll_cons_mk (shut_int Tryz.underlying3 wa) (trodAll_cons_mk (shut_int Tryz.underlying3 wb) (trodAll_cons_mk (shut_int Tryz.underlying3 wn) trodAll_mk0)), rfl, hb.frame _, fun h => by cases h⟩

/-- A world for the witness: the settled one, the listed variables laid. -/
def lay9 (cs : Array Value) : Obj → Obj
  | .cells _ t frozen => .cells cs t frozen
  | o => o
noncomputable def first9 : Array Value := (Go.Pinned.utf8FirstZ.map fun n : Nat => Value.int .u8 (n : Int)).toArray
noncomputable def laidWorld (os : Os) : World :=
  { World.holding Tryz.prog os ⟨#[.cells #[.string ⟨⟨[115, 104, 101, 108, 108, 58, 32, 116, 111, 111, 32, 103, 114, 101, 97, 116]⟩⟩] 607 (0, 0), .cells #[.string ⟨⟨[115, 104, 101, 108, 108, 58, 32, 110, 111, 117, 103, 104, 116]⟩⟩] 607 (0, 0), .cells #[.string ⟨⟨[115, 104, 101, 108, 108, 58, 32, 97, 32, 100, 105, 118, 105, 115, 105, 111, 110, 32, 98, 121, 32, 110, 111, 117, 103, 104, 116]⟩⟩] 607 (0, 0), .cells #[.string ⟨⟨[115, 104, 101, 108, 108, 58, 32, 110, 111, 32, 102, 105, 101, 108, 100]⟩⟩] 607 (0, 0), .cells #[.string ⟨⟨[105, 110, 118, 97, 108, 105, 100, 32, 115, 121, 110, 116, 97, 120]⟩⟩] 607 (0, 0), .cells #[.string ⟨⟨[118, 97, 108, 117, 101, 32, 111, 117, 116, 32, 111, 102, 32, 114, 97, 110, 103, 101]⟩⟩] 607 (0, 0)], #[], []⟩ with heap := (((((((((((((World.holding Tryz.prog os ⟨#[.cells #[.string ⟨⟨[115, 104, 101, 108, 108, 58, 32, 116, 111, 111, 32, 103, 114, 101, 97, 116]⟩⟩] 607 (0, 0), .cells #[.string ⟨⟨[115, 104, 101, 108, 108, 58, 32, 110, 111, 117, 103, 104, 116]⟩⟩] 607 (0, 0), .cells #[.string ⟨⟨[115, 104, 101, 108, 108, 58, 32, 97, 32, 100, 105, 118, 105, 115, 105, 111, 110, 32, 98, 121, 32, 110, 111, 117, 103, 104, 116]⟩⟩] 607 (0, 0), .cells #[.string ⟨⟨[115, 104, 101, 108, 108, 58, 32, 110, 111, 32, 102, 105, 101, 108, 100]⟩⟩] 607 (0, 0), .cells #[.string ⟨⟨[105, 110, 118, 97, 108, 105, 100, 32, 115, 121, 110, 116, 97, 120]⟩⟩] 607 (0, 0), .cells #[.string ⟨⟨[118, 97, 108, 117, 101, 32, 111, 117, 116, 32, 111, 102, 32, 114, 97, 110, 103, 101]⟩⟩] 607 (0, 0)], #[], []⟩).heap).modify 0 (lay9 #[.iface 605 (.pointer (some ⟨(World.settled Tryz.prog os).heap.size + 0, 0, none⟩))])).modify 1 (lay9 #[.iface 605 (.pointer (some ⟨(World.settled Tryz.prog os).heap.size + 1, 0, none⟩))])).modify 2 (lay9 #[.iface 605 (.pointer (some ⟨(World.settled Tryz.prog os).heap.size + 2, 0, none⟩))])).modify 3 (lay9 #[.iface 605 (.pointer (some ⟨(World.settled Tryz.prog os).heap.size + 3, 0, none⟩))])).modify 13 (lay9 #[.iface 605 (.pointer (some ⟨(World.settled Tryz.prog os).heap.size + 4, 0, none⟩))])).modify 14 (lay9 #[.iface 605 (.pointer (some ⟨(World.settled Tryz.prog os).heap.size + 5, 0, none⟩))])).modify 8 (lay9 #[.int .u64 1, .int .u64 10, .int .u64 100, .int .u64 1000, .int .u64 10000, .int .u64 100000, .int .u64 1000000, .int .u64 10000000, .int .u64 100000000, .int .u64 1000000000, .int .u64 10000000000, .int .u64 100000000000, .int .u64 1000000000000, .int .u64 10000000000000, .int .u64 100000000000000, .int .u64 1000000000000000, .int .u64 10000000000000000, .int .u64 100000000000000000, .int .u64 1000000000000000000, .int .u64 10000000000000000000])).modify 10 (lay9 #[.int .u8 128, .int .u8 191, .int .u8 160, .int .u8 191, .int .u8 128, .int .u8 159, .int .u8 144, .int .u8 191, .int .u8 128, .int .u8 143, .int .u8 0, .int .u8 0, .int .u8 0, .int .u8 0, .int .u8 0, .int .u8 0, .int .u8 0, .int .u8 0, .int .u8 0, .int .u8 0, .int .u8 0, .int .u8 0, .int .u8 0, .int .u8 0, .int .u8 0, .int .u8 0, .int .u8 0, .int .u8 0, .int .u8 0, .int .u8 0, .int .u8 0, .int .u8 0])).modify 11 (lay9 #[.int .u8 0, .int .u8 1, .int .u8 28, .int .u8 2, .int .u8 29, .int .u8 14, .int .u8 24, .int .u8 3, .int .u8 30, .int .u8 22, .int .u8 20, .int .u8 15, .int .u8 25, .int .u8 17, .int .u8 4, .int .u8 8, .int .u8 31, .int .u8 27, .int .u8 13, .int .u8 23, .int .u8 21, .int .u8 19, .int .u8 16, .int .u8 7, .int .u8 26, .int .u8 12, .int .u8 18, .int .u8 6, .int .u8 11, .int .u8 5, .int .u8 10, .int .u8 9])).modify 12 (lay9 #[.int .u8 0, .int .u8 1, .int .u8 56, .int .u8 2, .int .u8 57, .int .u8 49, .int .u8 28, .int .u8 3, .int .u8 61, .int .u8 58, .int .u8 42, .int .u8 50, .int .u8 38, .int .u8 29, .int .u8 17, .int .u8 4, .int .u8 62, .int .u8 47, .int .u8 59, .int .u8 36, .int .u8 45, .int .u8 43, .int .u8 51, .int .u8 22, .int .u8 53, .int .u8 39, .int .u8 33, .int .u8 30, .int .u8 24, .int .u8 18, .int .u8 12, .int .u8 5, .int .u8 63, .int .u8 55, .int .u8 48, .int .u8 27, .int .u8 60, .int .u8 41, .int .u8 37, .int .u8 16, .int .u8 46, .int .u8 35, .int .u8 44, .int .u8 21, .int .u8 52, .int .u8 32, .int .u8 23, .int .u8 11, .int .u8 54, .int .u8 26, .int .u8 40, .int .u8 15, .int .u8 34, .int .u8 20, .int .u8 31, .int .u8 10, .int .u8 25, .int .u8 14, .int .u8 19, .int .u8 9, .int .u8 13, .int .u8 8, .int .u8 7, .int .u8 6])).modify 4 (lay9 #[.iface 312 (.agg #[.pointer (some ⟨15, 57, none⟩)])])).modify 9 (lay9 first9) }
theorem laid_met (os : Os) : laidMetH Tryz.prog Rows.topPowersRow.laid ((laidWorld os).forCall (fun _ _ => 0) ⟨#[], #[.int .i64 0, .int .i64 0, .int .i64 0], []⟩).memory :=
  laidMetH_of_parts (laidMet_of_run' 8 (by kernel_rfl) (by kernel_rfl)) (by kernel_rfl)
theorem reads (os : Os) {H : Type} (enc : TypeId × Value → H) : ∃ places, DataW.whole enc Tryz.prog ((laidWorld os).forCall (fun _ _ => 0) ⟨#[], #[.int .i64 0, .int .i64 0, .int .i64 0], []⟩).memory Tryz.f4.params.toList Rows.topPowersSpec.vars false #[Value.int .i64 0, Value.int .i64 0, Value.int .i64 0].toList 8 = some ([.lit (.int .i64 0), .lit (.int .i64 0), .lit (.int .i64 0)], [], places) :=
  ⟨[], by kernel_rfl⟩

theorem lifted (os : Os) (started : os.Started) (H : Type) (enc : TypeId × Value → H) (F : Stop.Interp) :
    ReturnsInHanded {} Tryz.checked os 4 .any ((OpenSpec.ofChange Rows.topPowersSpec).preRow enc Tryz.prog Tryz.f4 Rows.topPowersRow.domain false Rows.topPowersRow.laid) (((OpenSpec.ofChange Rows.topPowersSpec).at F).post enc Tryz.prog Tryz.f4 false true false false) := by
  obtain ⟨places, hx⟩ := reads os enc
  refine returnsInHanded_of_row (C := Tryz.checked) (s := OpenSpec.ofChange Rows.topPowersSpec) own started (by kernel_rfl) Tryz.func4
    (witness_row_at (enc := enc) (C := Tryz.checked) false (laidWorld os) #[.int .i64 0, .int .i64 0, .int .i64 0] rfl (by kernel_rfl) (by kernel_rfl) (by kernel_rfl)
      (OpenSpec.preRow_of_cond 8 hx (by kernel_rfl) (fun k hk => by cases hk) (by kernel_rfl) (laid_met os))) ?_
  intro W base args ds gs before hval hW _ _ _ hL _ _
  exact contract H enc W base args ds gs before hval hW hL

end Go.Proofs.YtimgjgookgenoaaGreatDoor.topPowers
