/- Powers of two: the document's answer, and the statement NatShifts. -/
import Derived.Test.YtphcdigmgbhjcaaF5
import Derived.Test.YtphcdigmgbhjcaaF10
set_option linter.unusedVariables false
namespace Go.Vw
open Go.Proofs

attribute [local simp] RunL_cons RunL_nil AOp_none AOp_some acK_v acK_call agK_tt agK_ff agK_tf agK_ft agK_tup agK_i aop aun St.ev St.heap St.put thenQ blockQ upd_apply S0 argSlot lowV V.cells V.isAgg V.fits V.part partOk plains St.ret retSV svOf svsOf retQ retP retAll retOne uL_length uL_get? uL_get St.elems retH ownIdx ownAt
attribute [local simp] RunD_none RunD_some RunD_nil RunE_any acD_v acD_call agD_tt agD_ff agD_tf agD_ft agD_tup entsOf svref SO.opds SO.writes SO.makes callEnt pureSV pureOf RV.isOwn
attribute [local simp] abin_add abin_sub abin_mul abin_quo abin_rem abin_eql abin_neq abin_lss abin_leq abin_gtr abin_geq
attribute [local simp] uL_snoc uL_set uL_take uL_drop uL_append uL_replicate uL_nil
theorem power_facts (m : Nat) : Nm.Dl 18446744073709551616 (List.replicate (m / 64) 0 ++ [2 ^ (m % 64)]) ∧ Nm.val 18446744073709551616 (List.replicate (m / 64) 0 ++ [2 ^ (m % 64)]) = 2 ^ m := by
  have h : 2 ^ (m % 64) < 2 ^ 64 := Nat.pow_lt_pow_right (by omega) (Nat.mod_lt _ (by omega))
  refine ⟨(Nm.Dl.replicate (by omega) _).append (Nm.Dl.cons h (Nm.Dl.nil _)), ?_⟩
  rw [Nm.val_append, Nm.val_replicate]
  simp only [List.length_replicate, Nm.val, Nat.mul_zero, Nat.add_zero, Nat.zero_add]
  rw [show (18446744073709551616 : Nat) = 2 ^ 64 from rfl, ← Nat.pow_mul, ← Nat.pow_add]; congr 1; omega

theorem rshl_spec (a : List Nat) (ha : Nm.Dl 18446744073709551616 a) (la : a.length ≤ 2 ^ 36) (n : Int) :
    Spec Try.prog f_ref01_Shl [U a, .i .i64 n] (· = if n < 0 ∨ 262144 < n then [.pure (U []), .pure (.i .i64 1)] else [.pure (U (Nm.dig 18446744073709551616 (Nm.val 18446744073709551616 a * 2 ^ n.toNat))), .pure (.i .i64 0)]) := by
  refine spec_at Try.func34 ok_ref01_Shl [] rfl (by simp) ?_
  unfold sc_ref01_Shl
  refine WS_seq (WS_reg [] ?_)
  simp
  refine WS_seq (WS_seq (WS_reg [] ?_))
  by_cases h1 : n < 0
  · simp [h1]
    refine WS_cond (t := true) (by simp) (fun _ => ?_) (fun h => by cases h)
    refine WS_seq (WS_reg [] ?_)
    simp
    refine WS_ret ?_
    simp [U]
  · by_cases h2 : 262144 < n
    · simp [h1, h2]
      refine WS_cond (t := true) (by simp) (fun _ => ?_) (fun h => by cases h)
      refine WS_seq (WS_reg [] ?_)
      simp
      refine WS_ret ?_
      simp [U]
    · simp [h1, h2]
      refine WS_cond (t := false) (by simp) (fun h => by cases h) (fun _ => ?_)
      refine WS_skip ?_
      simp
      obtain ⟨m, rfl⟩ : ∃ m : Nat, n = m := ⟨n.toNat, by omega⟩
      obtain ⟨p1, p2⟩ := power_facts m
      refine WS_seq (WS_reg [] ?_)
      simp
      refine callK (rpower_spec m (by omega)) ?_
      simp
      refine callK (rmul_spec a _ ha p1 la (by simp; omega)) ?_
      rw [p2]
      simp
      refine WS_ret ?_
      simp

theorem rshr_spec (a : List Nat) (ha : Nm.Dl 18446744073709551616 a) (la : a.length ≤ 2 ^ 34) (n : Int) (hn : n < 2 ^ 63) :
    Spec Try.prog f_ref01_Shr [U a, .i .i64 n] (· = [.pure (U (Nm.dig 18446744073709551616 (Nm.val 18446744073709551616 a / 2 ^ n.toNat)))]) := by
  refine spec_at Try.func37 ok_ref01_Shr [] rfl (by simp) ?_
  unfold sc_ref01_Shr
  have w0 : IntKind.i64.wrap (64 * (a.length : Int)) = 64 * (a.length : Int) := i64_int _ (by omega) (by omega)
  refine WS_seq (WS_reg [] ?_)
  simp
  refine WS_seq (WS_seq (WS_reg [] ?_))
  simp [U, w0]
  by_cases h : 64 * (a.length : Int) ≤ n
  · refine WS_cond (t := true) (by simp [h]) (fun _ => ?_) (fun h => by cases h)
    refine WS_seq (WS_reg [] ?_)
    simp
    refine WS_ret ?_
    have hz : Nm.val 18446744073709551616 a / 2 ^ n.toNat = 0 := by
      refine Nat.div_eq_of_lt (Nat.lt_of_lt_of_le (Nm.val_lt ha) ?_)
      rw [show (18446744073709551616 : Nat) = 2 ^ 64 from rfl, ← Nat.pow_mul]
      exact Nat.pow_le_pow_right (by omega) (by omega)
    simp [hz, Nm.dig_zero]
  · refine WS_cond (t := false) (by simp; omega) (fun h => by cases h) (fun _ => ?_)
    refine WS_skip ?_
    simp
    obtain ⟨m, hm⟩ : ∃ m : Nat, m = n.toNat := ⟨_, rfl⟩
    have hmax : (if n < 0 then (0 : Int) else n) = (m : Int) := by split <;> omega
    have hmax' : (if 0 < n then n else (0 : Int)) = (m : Int) := by split <;> omega
    obtain ⟨p1, p2⟩ := power_facts m
    rw [← hm]
    refine WS_seq (WS_reg [] ?_)
    simp [hmax, hmax']
    refine callK (rpower_spec m (by omega)) ?_
    simp
    refine callK (rdiv_spec a _ ha p1 la (by simp; omega) (by rw [p2]; exact Nat.pos_iff_ne_zero.1 (Nat.pow_pos (by omega)))) ?_
    rw [p2]
    simp
    refine WS_seq (WS_reg [] ?_)
    simp
    refine WS_ret ?_
    simp [U]

theorem law_NatShifts (a : List Nat) (ha : Nm.Dl 18446744073709551616 a) (la : a.length ≤ 2 ^ 30) (n : Int) (hn : n < 2 ^ 63) :
    Spec Try.prog f_law01_NatShifts [U a, .i .i64 n] (· = [.pure (.b true)]) := by
  refine spec_at Try.func3 ok_law01_NatShifts [] rfl (by simp) ?_
  unfold sc_law01_NatShifts
  refine WS_seq (WS_reg [] ?_)
  simp
  refine WS_seq (WS_reg [] ?_)
  simp
  refine callK (nshl_spec [] (Nm.Dl.nil _) (by simp) (-1)) ?_
  simp
  have hcase : ((60 : Int) < a.length) ∨ (¬ (60 : Int) < a.length ∧ 5000 < n ∧ n ≤ 262144) ∨ (¬ (60 : Int) < a.length ∧ 5000 < n ∧ ¬ n ≤ 262144) ∨ (¬ (60 : Int) < a.length ∧ ¬ 5000 < n) := by omega
  have r1 := nshr_spec a ha (by omega) n hn
  have r2 : a.length ≤ 60 → _ := fun h => rshr_spec a ha (by omega) n hn
  have b1 := nshl_spec a ha (by omega) n
  have b2 : a.length ≤ 60 → _ := fun h => rshl_spec a ha (by omega) n
  refine WS_seq (WS_seq (WS_reg [] ?_))
  rcases hcase with h1 | ⟨h1, h2, h3⟩ | ⟨h1, h2, h3⟩ | ⟨h1, h2⟩
  · simp [h1, U]
    refine WS_cond (t := true) (by simp) (fun _ => ?_) (fun h => by cases h)
    refine WS_seq (WS_reg [] ?_)
    simp
    refine WS_ret ?_
    simp
  · simp [h1, h2, h3, U]
    refine WS_cond (t := true) (by simp) (fun _ => ?_) (fun h => by cases h)
    refine WS_seq (WS_reg [] ?_)
    simp
    refine WS_ret ?_
    simp
  all_goals
    first | simp [h1, h2, h3, U] | simp [h1, h2, U]
    refine WS_cond (t := false) (by simp) (fun h => by cases h) (fun _ => ?_)
    refine WS_skip ?_
    simp
    have r2 := r2 (by omega)
    have b2 := b2 (by omega)
    have hs1 := Nm.dig_length_le (B := 18446744073709551616) (by omega) (n := Nm.val 18446744073709551616 a / 2 ^ n.toNat) (k := a.length) (Nat.lt_of_le_of_lt (Nat.div_le_self _ _) (Nm.val_lt ha))
    by_cases h : n < 0 ∨ 262144 < n
    · rw [if_pos h] at b1 b2
      refine WS_seq (WS_reg [] ?_)
      simp
      refine callK b1 ?_
      simp
      refine WS_seq (WS_reg [] ?_)
      simp
      refine callK b2 ?_
      simp
      refine WS_seq (WS_reg [] ?_)
      simp
      refine callK (same_spec [] (by simp)) ?_
      simp
      refine callK r1 ?_
      simp
      refine callK r2 ?_
      simp
      refine callK (same_spec _ (by omega)) ?_
      simp
      refine WS_ret ?_
      simp
    · rw [if_neg h] at b1 b2
      have hs2 := Nm.dig_length_le (B := 18446744073709551616) (by omega) (n := Nm.val 18446744073709551616 a * 2 ^ n.toNat) (k := a.length + (n.toNat / 64 + 1)) (by
        rw [Nat.pow_add]
        refine Nat.mul_lt_mul'' (Nm.val_lt ha) ?_
        rw [show (18446744073709551616 : Nat) = 2 ^ 64 from rfl, ← Nat.pow_mul]
        exact Nat.pow_lt_pow_right (by omega) (by omega))
      refine WS_seq (WS_reg [] ?_)
      simp
      refine callK b1 ?_
      simp
      refine WS_seq (WS_reg [] ?_)
      simp
      refine callK b2 ?_
      simp
      refine WS_seq (WS_reg [] ?_)
      simp
      refine callK (same_spec _ (by omega)) ?_
      simp
      refine callK r1 ?_
      simp
      refine callK r2 ?_
      simp
      refine callK (same_spec _ (by omega)) ?_
      simp
      refine WS_ret ?_
      simp
end Go.Vw
