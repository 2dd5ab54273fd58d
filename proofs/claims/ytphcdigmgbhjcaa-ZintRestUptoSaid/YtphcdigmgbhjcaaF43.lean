/- Small; Div, Exact; of both. -/
import Derived.Test.YtphcdigmgbhjcaaF42
set_option linter.unusedVariables false
set_option linter.unusedSimpArgs false
namespace Go.Vw
open Go.Proofs

def smallR (x : Int) : List RV := if -9223372036854775808 ≤ x ∧ x ≤ 9223372036854775807 then [.pure (.i .i64 x), .pure (.b true)] else [.pure (.i .i64 0), .pure (.b false)]

theorem zl_one {x : Int} (h0 : x ≠ 0) (h1 : x.natAbs < 18446744073709551616) : zl x = [x.natAbs] := by
  rw [zl, Nm.dig_pos (by omega) (by omega), Nat.mod_eq_of_lt h1, Nat.div_eq_of_lt h1, Nm.dig_zero]
theorem zl_two {x : Int} (h1 : 18446744073709551616 ≤ x.natAbs) : 1 < (zl x).length := by
  rcases Nat.lt_or_ge 1 (zl x).length with h | h
  · exact h
  · exfalso
    have := lt_zlen' (z := x) (k := 1) h
    rw [Nat.pow_one] at this
    omega

attribute [local simp] RunL_cons RunL_nil AOp_none AOp_some acK_v acK_call agK_tt agK_ff agK_tf agK_ft agK_tup agK_i aop aun St.ev St.heap St.put thenQ blockQ upd_apply S0 argSlot lowV V.cells V.isAgg V.fits V.part partOk plains St.ret retSV svOf svsOf retQ retP retAll retOne uL_length uL_get? uL_get St.elems retH ownIdx ownAt
attribute [local simp] RunD_none RunD_some RunD_nil RunE_any acD_v acD_call agD_tt agD_ff agD_tf agD_ft agD_tup entsOf svref SO.opds SO.writes SO.makes callEnt pureSV pureOf RV.isOwn
attribute [local simp] abin_add abin_sub abin_mul abin_quo abin_rem abin_eql abin_neq abin_lss abin_leq abin_gtr abin_geq
attribute [local simp] uL_snoc uL_set uL_take uL_drop uL_append uL_replicate uL_nil
attribute [local simp] acK_callG acD_callG St.giv gsSV gvSV retEnts ownEnts SO.still
attribute [local simp] S0G argSlotG givSV retQG retPG retAllG retOneG HObj.width V.scalar trimQ V.byte
attribute [local simp] zv V.fits fillOk fillV Z_eq
theorem zsmall {k : Nat} {v : V} {x : Int} (hv : IsZ k v x) (hk : k ≤ 2 ^ 40) : Spec Try.prog f_zint_Small [v] (· = smallR x) := by
  have nn := znorm hv hk
  obtain ⟨n, l, rfl, h, rfl⟩ := hv
  refine spec_at Try.func67 ok_zint_Small [] rfl (by simp) ?_
  unfold sc_zint_Small
  obtain ⟨x, hx⟩ : ∃ x, x = zi n l := ⟨_, rfl⟩
  rw [← hx] at nn ⊢
  by_cases h0 : x = 0
  · subst h0
    rw [smallR, if_pos (by omega)]
    refine WS_seq ?_
    refine WS_reg [] ?_
    simp [zl_nil]
    refine WS_seq ?_
    refine WS_reg [] ?_
    simp [zl_nil]
    refine callK nn ?_
    simp [zl_nil]
    refine WS_seq ?_
    refine WS_block ?_
    refine WS_seq ?_
    refine WS_reg [] ?_
    simp [zl_nil]
    refine WS_cond (t := true) (by simp [zl_nil]) (fun _ => ?_) (fun h => by cases h)
    refine WS_seq ?_
    refine WS_reg [] ?_
    simp [zl_nil]
    refine WS_ret ?_
    simp [zl_nil]
  · by_cases h1 : x.natAbs < 18446744073709551616
    · have e := zl_one h0 h1
      have hm0 : x.natAbs ≠ 0 := by omega
      obtain ⟨m, hm⟩ : ∃ m, m = x.natAbs := ⟨_, rfl⟩
      rw [← hm] at e h1 hm0
      by_cases hn : x < 0
      · have en := zn_true hn
        by_cases hs : (m : Int) ≤ 9223372036854775808
        · rw [smallR, if_pos (by omega)]
          have ew : IntKind.i64.wrap (IntKind.u64.wrap (-(m : Int))) = x := by rw [IntKind.wrap_i64, IntKind.wrap_u64]; omega
          refine WS_seq ?_
          refine WS_reg [] ?_
          simp [e, en, hs, ew, uL]
          refine WS_seq ?_
          refine WS_reg [] ?_
          simp [e, en, hs, ew, uL]
          refine callK nn ?_
          simp [e, en, hs, ew, uL]
          refine WS_seq ?_
          refine WS_block ?_
          refine WS_seq ?_
          refine WS_reg [] ?_
          simp [e, en, hs, ew, uL]
          refine WS_cond (t := false) (by simp [e, en, hs, ew, uL]) (fun h => by cases h) (fun _ => ?_)
          refine WS_seq ?_
          refine WS_reg [] ?_
          simp [e, en, hs, ew, uL]
          refine WS_cond (t := false) (by simp [e, en, hs, ew, uL]) (fun h => by cases h) (fun _ => ?_)
          refine WS_seq ?_
          refine WS_reg [] ?_
          simp [e, en, hs, ew, uL]
          refine WS_cond (t := true) (by simp [e, en, hs, ew, uL]) (fun _ => ?_) (fun h => by cases h)
          refine WS_seq ?_
          refine WS_reg [] ?_
          simp [e, en, hs, ew, uL]
          refine WS_ret ?_
          simp [e, en, hs, ew, uL]
        · rw [smallR, if_neg (by omega)]
          refine WS_seq ?_
          refine WS_reg [] ?_
          simp [e, en, hs, uL]
          refine WS_seq ?_
          refine WS_reg [] ?_
          simp [e, en, hs, uL]
          refine callK nn ?_
          simp [e, en, hs, uL]
          refine WS_seq ?_
          refine WS_block ?_
          refine WS_seq ?_
          refine WS_reg [] ?_
          simp [e, en, hs, uL]
          refine WS_cond (t := false) (by simp [e, en, hs, uL]) (fun h => by cases h) (fun _ => ?_)
          refine WS_seq ?_
          refine WS_reg [] ?_
          simp [e, en, hs, uL]
          refine WS_cond (t := false) (by simp [e, en, hs, uL]) (fun h => by cases h) (fun _ => ?_)
          refine WS_seq ?_
          refine WS_reg [] ?_
          simp [e, en, hs, uL]
          refine WS_cond (t := false) (by simp [e, en, hs, uL]) (fun h => by cases h) (fun _ => ?_)
          refine WS_seq ?_
          refine WS_reg [] ?_
          simp [e, en, hs, uL]
          refine WS_cond (t := true) (by simp [e, en, hs, uL]) (fun _ => ?_) (fun h => by cases h)
          refine WS_seq ?_
          refine WS_reg [] ?_
          simp [e, en, hs, uL]
          refine WS_ret ?_
          simp [e, en, hs, uL]
      · have en := zn_false (x := x) (by omega)
        by_cases hs : (9223372036854775807 : Int) < (m : Int)
        · rw [smallR, if_neg (by omega)]
          refine WS_seq ?_
          refine WS_reg [] ?_
          simp [e, en, hs, uL]
          refine WS_seq ?_
          refine WS_reg [] ?_
          simp [e, en, hs, uL]
          refine callK nn ?_
          simp [e, en, hs, uL]
          refine WS_seq ?_
          refine WS_block ?_
          refine WS_seq ?_
          refine WS_reg [] ?_
          simp [e, en, hs, uL]
          refine WS_cond (t := false) (by simp [e, en, hs, uL]) (fun h => by cases h) (fun _ => ?_)
          refine WS_seq ?_
          refine WS_reg [] ?_
          simp [e, en, hs, uL]
          refine WS_cond (t := false) (by simp [e, en, hs, uL]) (fun h => by cases h) (fun _ => ?_)
          refine WS_seq ?_
          refine WS_reg [] ?_
          simp [e, en, hs, uL]
          refine WS_cond (t := false) (by simp [e, en, hs, uL]) (fun h => by cases h) (fun _ => ?_)
          refine WS_seq ?_
          refine WS_reg [] ?_
          simp [e, en, hs, uL]
          refine WS_cond (t := true) (by simp [e, en, hs, uL]) (fun _ => ?_) (fun h => by cases h)
          refine WS_seq ?_
          refine WS_reg [] ?_
          simp [e, en, hs, uL]
          refine WS_ret ?_
          simp [e, en, hs, uL]
        · rw [smallR, if_pos (by omega)]
          have ew : IntKind.i64.wrap (m : Int) = x := by rw [IntKind.wrap_i64]; omega
          refine WS_seq ?_
          refine WS_reg [] ?_
          simp [e, en, hs, ew, uL]
          refine WS_seq ?_
          refine WS_reg [] ?_
          simp [e, en, hs, ew, uL]
          refine callK nn ?_
          simp [e, en, hs, ew, uL]
          refine WS_seq ?_
          refine WS_block ?_
          refine WS_seq ?_
          refine WS_reg [] ?_
          simp [e, en, hs, ew, uL]
          refine WS_cond (t := false) (by simp [e, en, hs, ew, uL]) (fun h => by cases h) (fun _ => ?_)
          refine WS_seq ?_
          refine WS_reg [] ?_
          simp [e, en, hs, ew, uL]
          refine WS_cond (t := false) (by simp [e, en, hs, ew, uL]) (fun h => by cases h) (fun _ => ?_)
          refine WS_seq ?_
          refine WS_reg [] ?_
          simp [e, en, hs, ew, uL]
          refine WS_cond (t := false) (by simp [e, en, hs, ew, uL]) (fun h => by cases h) (fun _ => ?_)
          refine WS_seq ?_
          refine WS_reg [] ?_
          simp [e, en, hs, ew, uL]
          refine WS_cond (t := false) (by simp [e, en, hs, ew, uL]) (fun h => by cases h) (fun _ => ?_)
          refine WS_skip ?_
          simp [e, en, hs, ew, uL]
          refine WS_seq ?_
          refine WS_reg [] ?_
          simp [e, en, hs, ew, uL]
          refine WS_ret ?_
          simp [e, en, hs, ew, uL]
    · have e := zl_two (x := x) (by omega)
      have e1 : (1 : Int) < ((zl x).length : Int) := by omega
      have e0 : ¬ zl x = [] := by rw [zl_eq_nil]; exact h0
      rw [smallR, if_neg (by omega)]
      refine WS_seq ?_
      refine WS_reg [] ?_
      simp [e, e0, e1]
      refine WS_seq ?_
      refine WS_reg [] ?_
      simp [e, e0, e1]
      refine callK nn ?_
      simp [e, e0, e1]
      refine WS_seq ?_
      refine WS_block ?_
      refine WS_seq ?_
      refine WS_reg [] ?_
      simp [e, e0, e1]
      refine WS_cond (t := false) (by simp [e, e0, e1]) (fun h => by cases h) (fun _ => ?_)
      refine WS_seq ?_
      refine WS_reg [] ?_
      simp [e, e0, e1]
      refine WS_cond (t := true) (by simp [e, e0, e1]) (fun _ => ?_) (fun h => by cases h)
      refine WS_seq ?_
      refine WS_reg [] ?_
      simp [e, e0, e1]
      refine WS_ret ?_
      simp [e, e0, e1]

theorem rsmall {k : Nat} {v : V} {x : Int} (hv : IsZ k v x) (hk : k ≤ 2 ^ 40) : Spec Try.prog f_ref02_Small [v] (· = smallR x) := by
  have nn := rnorm hv hk
  obtain ⟨n, l, rfl, h, rfl⟩ := hv
  refine spec_at Try.func73 ok_ref02_Small [] rfl (by simp) ?_
  unfold sc_ref02_Small
  obtain ⟨x, hx⟩ : ∃ x, x = zi n l := ⟨_, rfl⟩
  rw [← hx] at nn ⊢
  by_cases h0 : x = 0
  · subst h0
    rw [smallR, if_pos (by omega)]
    refine WS_seq ?_
    refine WS_reg [] ?_
    simp [zl_nil]
    refine WS_seq ?_
    refine WS_reg [] ?_
    simp [zl_nil]
    refine callK nn ?_
    simp [zl_nil]
    refine WS_seq ?_
    refine WS_seq ?_
    refine WS_reg [] ?_
    simp [zl_nil]
    refine WS_cond (t := true) (by simp [zl_nil]) (fun _ => ?_) (fun h => by cases h)
    refine WS_seq ?_
    refine WS_reg [] ?_
    simp [zl_nil]
    refine WS_ret ?_
    simp [zl_nil]
  · by_cases h1 : x.natAbs < 18446744073709551616
    · have e := zl_one h0 h1
      have hm0 : x.natAbs ≠ 0 := by omega
      obtain ⟨m, hm⟩ : ∃ m, m = x.natAbs := ⟨_, rfl⟩
      rw [← hm] at e h1 hm0
      by_cases hn : x < 0
      · have en := zn_true hn
        by_cases hs : (m : Int) ≤ 9223372036854775808
        · rw [smallR, if_pos (by omega)]
          have ew : IntKind.i64.wrap (-IntKind.i64.wrap (m : Int)) = x := by rw [IntKind.wrap_i64, IntKind.wrap_i64]; omega
          refine WS_seq ?_
          refine WS_reg [] ?_
          simp [e, en, hs, ew, uL]
          refine WS_seq ?_
          refine WS_reg [] ?_
          simp [e, en, hs, ew, uL]
          refine callK nn ?_
          simp [e, en, hs, ew, uL]
          refine WS_seq ?_
          refine WS_seq ?_
          refine WS_reg [] ?_
          simp [e, en, hs, ew, uL]
          refine WS_cond (t := false) (by simp [e, en, hs, ew, uL]) (fun h => by cases h) (fun _ => ?_)
          refine WS_skip ?_
          simp [e, en, hs, ew, uL]
          refine WS_seq ?_
          refine WS_seq ?_
          refine WS_reg [] ?_
          simp [e, en, hs, ew, uL]
          refine WS_cond (t := false) (by simp [e, en, hs, ew, uL]) (fun h => by cases h) (fun _ => ?_)
          refine WS_skip ?_
          simp [e, en, hs, ew, uL]
          refine WS_seq ?_
          refine WS_reg [] ?_
          simp [e, en, hs, ew, uL]
          refine WS_seq ?_
          refine WS_seq ?_
          refine WS_reg [] ?_
          simp [e, en, hs, ew, uL]
          refine WS_cond (t := true) (by simp [e, en, hs, ew, uL]) (fun _ => ?_) (fun h => by cases h)
          refine WS_seq ?_
          refine WS_reg [] ?_
          simp [e, en, hs, ew, uL]
          refine WS_ret ?_
          simp [e, en, hs, ew, uL]
        · rw [smallR, if_neg (by omega)]
          refine WS_seq ?_
          refine WS_reg [] ?_
          simp [e, en, hs, uL]
          refine WS_seq ?_
          refine WS_reg [] ?_
          simp [e, en, hs, uL]
          refine callK nn ?_
          simp [e, en, hs, uL]
          refine WS_seq ?_
          refine WS_seq ?_
          refine WS_reg [] ?_
          simp [e, en, hs, uL]
          refine WS_cond (t := false) (by simp [e, en, hs, uL]) (fun h => by cases h) (fun _ => ?_)
          refine WS_skip ?_
          simp [e, en, hs, uL]
          refine WS_seq ?_
          refine WS_seq ?_
          refine WS_reg [] ?_
          simp [e, en, hs, uL]
          refine WS_cond (t := false) (by simp [e, en, hs, uL]) (fun h => by cases h) (fun _ => ?_)
          refine WS_skip ?_
          simp [e, en, hs, uL]
          refine WS_seq ?_
          refine WS_reg [] ?_
          simp [e, en, hs, uL]
          refine WS_seq ?_
          refine WS_seq ?_
          refine WS_reg [] ?_
          simp [e, en, hs, uL]
          refine WS_cond (t := false) (by simp [e, en, hs, uL]) (fun h => by cases h) (fun _ => ?_)
          refine WS_skip ?_
          simp [e, en, hs, uL]
          refine WS_seq ?_
          refine WS_seq ?_
          refine WS_reg [] ?_
          simp [e, en, hs, uL]
          refine WS_cond (t := false) (by simp [e, en, hs, uL]) (fun h => by cases h) (fun _ => ?_)
          refine WS_skip ?_
          simp [e, en, hs, uL]
          refine WS_seq ?_
          refine WS_reg [] ?_
          simp [e, en, hs, uL]
          refine WS_ret ?_
          simp [e, en, hs, uL]
      · have en := zn_false (x := x) (by omega)
        by_cases hs : (m : Int) ≤ 9223372036854775807
        · rw [smallR, if_pos (by omega)]
          have ew : IntKind.i64.wrap (m : Int) = x := by rw [IntKind.wrap_i64]; omega
          refine WS_seq ?_
          refine WS_reg [] ?_
          simp [e, en, hs, ew, uL]
          refine WS_seq ?_
          refine WS_reg [] ?_
          simp [e, en, hs, ew, uL]
          refine callK nn ?_
          simp [e, en, hs, ew, uL]
          refine WS_seq ?_
          refine WS_seq ?_
          refine WS_reg [] ?_
          simp [e, en, hs, ew, uL]
          refine WS_cond (t := false) (by simp [e, en, hs, ew, uL]) (fun h => by cases h) (fun _ => ?_)
          refine WS_skip ?_
          simp [e, en, hs, ew, uL]
          refine WS_seq ?_
          refine WS_seq ?_
          refine WS_reg [] ?_
          simp [e, en, hs, ew, uL]
          refine WS_cond (t := false) (by simp [e, en, hs, ew, uL]) (fun h => by cases h) (fun _ => ?_)
          refine WS_skip ?_
          simp [e, en, hs, ew, uL]
          refine WS_seq ?_
          refine WS_reg [] ?_
          simp [e, en, hs, ew, uL]
          refine WS_seq ?_
          refine WS_seq ?_
          refine WS_reg [] ?_
          simp [e, en, hs, ew, uL]
          refine WS_cond (t := false) (by simp [e, en, hs, ew, uL]) (fun h => by cases h) (fun _ => ?_)
          refine WS_skip ?_
          simp [e, en, hs, ew, uL]
          refine WS_seq ?_
          refine WS_seq ?_
          refine WS_reg [] ?_
          simp [e, en, hs, ew, uL]
          refine WS_cond (t := true) (by simp [e, en, hs, ew, uL]) (fun _ => ?_) (fun h => by cases h)
          refine WS_seq ?_
          refine WS_reg [] ?_
          simp [e, en, hs, ew, uL]
          refine WS_ret ?_
          simp [e, en, hs, ew, uL]
        · rw [smallR, if_neg (by omega)]
          refine WS_seq ?_
          refine WS_reg [] ?_
          simp [e, en, hs, uL]
          refine WS_seq ?_
          refine WS_reg [] ?_
          simp [e, en, hs, uL]
          refine callK nn ?_
          simp [e, en, hs, uL]
          refine WS_seq ?_
          refine WS_seq ?_
          refine WS_reg [] ?_
          simp [e, en, hs, uL]
          refine WS_cond (t := false) (by simp [e, en, hs, uL]) (fun h => by cases h) (fun _ => ?_)
          refine WS_skip ?_
          simp [e, en, hs, uL]
          refine WS_seq ?_
          refine WS_seq ?_
          refine WS_reg [] ?_
          simp [e, en, hs, uL]
          refine WS_cond (t := false) (by simp [e, en, hs, uL]) (fun h => by cases h) (fun _ => ?_)
          refine WS_skip ?_
          simp [e, en, hs, uL]
          refine WS_seq ?_
          refine WS_reg [] ?_
          simp [e, en, hs, uL]
          refine WS_seq ?_
          refine WS_seq ?_
          refine WS_reg [] ?_
          simp [e, en, hs, uL]
          refine WS_cond (t := false) (by simp [e, en, hs, uL]) (fun h => by cases h) (fun _ => ?_)
          refine WS_skip ?_
          simp [e, en, hs, uL]
          refine WS_seq ?_
          refine WS_seq ?_
          refine WS_reg [] ?_
          simp [e, en, hs, uL]
          refine WS_cond (t := false) (by simp [e, en, hs, uL]) (fun h => by cases h) (fun _ => ?_)
          refine WS_skip ?_
          simp [e, en, hs, uL]
          refine WS_seq ?_
          refine WS_reg [] ?_
          simp [e, en, hs, uL]
          refine WS_ret ?_
          simp [e, en, hs, uL]
    · have e := zl_two (x := x) (by omega)
      have e1 : (1 : Int) < ((zl x).length : Int) := by omega
      have e0 : ¬ zl x = [] := by rw [zl_eq_nil]; exact h0
      rw [smallR, if_neg (by omega)]
      refine WS_seq ?_
      refine WS_reg [] ?_
      simp [e, e0, e1]
      refine WS_seq ?_
      refine WS_reg [] ?_
      simp [e, e0, e1]
      refine callK nn ?_
      simp [e, e0, e1]
      refine WS_seq ?_
      refine WS_seq ?_
      refine WS_reg [] ?_
      simp [e, e0, e1]
      refine WS_cond (t := false) (by simp [e, e0, e1]) (fun h => by cases h) (fun _ => ?_)
      refine WS_skip ?_
      simp [e, e0, e1]
      refine WS_seq ?_
      refine WS_seq ?_
      refine WS_reg [] ?_
      simp [e, e0, e1]
      refine WS_cond (t := true) (by simp [e, e0, e1]) (fun _ => ?_) (fun h => by cases h)
      refine WS_seq ?_
      refine WS_reg [] ?_
      simp [e, e0, e1]
      refine WS_ret ?_
      simp [e, e0, e1]
end Go.Vw
