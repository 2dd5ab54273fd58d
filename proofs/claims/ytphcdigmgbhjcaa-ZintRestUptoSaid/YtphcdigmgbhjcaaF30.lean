/- nat.Div in general; the contracts of NatDivides and NatRest. -/
import Derived.Test.YtphcdigmgbhjcaaF29
import Derived.Test.YtphcdigmgbhjcaaF10
import Derived.Test.YtphcdigmgbhjcaaF16
set_option linter.unusedVariables false
set_option linter.unusedSimpArgs false
namespace Go.Vw
open Go.Proofs

attribute [local simp] RunL_cons RunL_nil AOp_none AOp_some acK_v acK_call agK_tt agK_ff agK_tf agK_ft agK_tup agK_i aop aun St.ev St.heap St.put thenQ blockQ upd_apply S0 argSlot lowV V.cells V.isAgg V.fits V.part partOk plains St.ret retSV svOf svsOf retQ retP retAll retOne uL_length uL_get? uL_get St.elems retH ownIdx ownAt
attribute [local simp] RunD_none RunD_some RunD_nil RunE_any acD_v acD_call agD_tt agD_ff agD_tf agD_ft agD_tup entsOf svref SO.opds SO.writes SO.makes callEnt pureSV pureOf RV.isOwn
attribute [local simp] abin_add abin_sub abin_mul abin_quo abin_rem abin_eql abin_neq abin_lss abin_leq abin_gtr abin_geq
attribute [local simp] uL_snoc uL_set uL_take uL_drop uL_append uL_replicate uL_nil
attribute [local simp] acK_callG acD_callG St.giv gsSV gvSV retEnts ownEnts SO.still
attribute [local simp] S0G argSlotG givSV retQG retPG retAllG retOneG HObj.width V.scalar trimQ V.byte
theorem ndiv_less (a b : List Nat) (ha : Nm.Dl 18446744073709551616 a) (hb : Nm.Dl 18446744073709551616 b) (la : a.length ≤ 2 ^ 38) (lb : b.length ≤ 2 ^ 38) (h : Nm.val 18446744073709551616 a < Nm.val 18446744073709551616 b) :
    Spec Try.prog f_nat_Div [U a, U b] (· = [.pure (U []), .pure (U (Nm.dig 18446744073709551616 (Nm.val 18446744073709551616 a))), .pure (.i .i64 0)]) := by
  refine spec_at Try.func54 ok_nat_Div [] rfl (by simp) ?_
  unfold sc_nat_Div
  have p1 := plain_spec a (by omega)
  have p2 := plain_spec b (by omega)
  have l1 := Nm.trim_length_le a
  have l2 := Nm.trim_length_le b
  rw [← Nm.dig_val (by omega) ha] at p1 l1
  rw [← Nm.dig_val (by omega) hb] at p2 l2
  obtain ⟨A, hA⟩ : ∃ v, v = Nm.val 18446744073709551616 a := ⟨_, rfl⟩
  obtain ⟨D, hD⟩ : ∃ v, v = Nm.val 18446744073709551616 b := ⟨_, rfl⟩
  rw [← hA] at p1 l1 h ⊢
  rw [← hD] at p2 l2 h
  have vA := Nm.val_dig (B := 18446744073709551616) (by omega) A
  have vD := Nm.val_dig (B := 18446744073709551616) (by omega) D
  have cm := ncmp_spec (Nm.dig 18446744073709551616 A) (Nm.dig 18446744073709551616 D) (Nm.dig_lt (by omega) _) (Nm.dig_lt (by omega) _) (by omega) (by omega)
  rw [vA, vD, show Nm.cmpN A D = -1 by unfold Nm.cmpN; rw [if_pos h]] at cm
  have nn := nnorm_spec (Nm.dig 18446744073709551616 A) (by omega)
  rw [Nm.trim_dig (by omega)] at nn
  have hp := Nm.dig_length_pos (B := 18446744073709551616) (n := D) (by omega) (by omega)
  obtain ⟨La, hLa⟩ : ∃ z, z = Nm.dig 18446744073709551616 A := ⟨_, rfl⟩
  obtain ⟨Lb, hLb⟩ : ∃ z, z = Nm.dig 18446744073709551616 D := ⟨_, rfl⟩
  rw [← hLa] at p1 cm nn ⊢
  rw [← hLb] at p2 cm hp
  have e0 : (Lb = []) = False := by
    refine eq_false fun h => ?_
    rw [h] at hp; cases hp
  have e0' : ((Lb.length : Int) == 0) = false := by simp [e0]
  refine WS_seq (WS_reg [] ?_)
  simp
  refine WS_seq (WS_reg [] ?_)
  simp
  refine callK p1 ?_
  simp
  refine callK p2 ?_
  simp
  refine WS_seq (WS_block (WS_seq (WS_reg [] ?_)))
  simp [U, e0']
  refine WS_cond (t := false) (by simp [e0]) (fun h => by cases h) (fun _ => ?_)
  refine WS_seq (WS_reg [] ?_)
  simp
  refine callK cm ?_
  simp
  refine WS_cond (t := true) (by simp) (fun _ => ?_) (fun h => by cases h)
  refine WS_seq (WS_reg [] ?_)
  simp
  refine callK nn ?_
  simp
  refine WS_ret ?_
  simp [U]

theorem ndiv_spec (a b : List Nat) (ha : Nm.Dl 18446744073709551616 a) (hb : Nm.Dl 18446744073709551616 b) (la : a.length ≤ 2 ^ 36) (lb : b.length ≤ 2 ^ 36) (h0 : Nm.val 18446744073709551616 b ≠ 0) :
    Spec Try.prog f_nat_Div [U a, U b] (· = [.pure (U (Nm.dig 18446744073709551616 (Nm.val 18446744073709551616 a / Nm.val 18446744073709551616 b))), .pure (U (Nm.dig 18446744073709551616 (Nm.val 18446744073709551616 a % Nm.val 18446744073709551616 b))), .pure (.i .i64 0)]) := by
  by_cases h1 : Nm.val 18446744073709551616 b < 18446744073709551616
  · exact ndiv_one a b ha hb (by omega) (by omega) (by omega) h1
  · by_cases h2 : Nm.val 18446744073709551616 a < Nm.val 18446744073709551616 b
    · rw [Nat.div_eq_of_lt h2, Nat.mod_eq_of_lt h2, Nm.dig_zero]
      exact ndiv_less a b ha hb (by omega) (by omega) h2
    · exact ndiv_gen a b ha hb la lb (by omega) (by omega)

theorem div_len {a b : Nat} {k : Nat} (h : a < 18446744073709551616 ^ k) : (Nm.dig 18446744073709551616 (a / b)).length ≤ k ∧ (Nm.dig 18446744073709551616 (a % b)).length ≤ k :=
  ⟨Nm.dig_length_le (by omega) (Nat.lt_of_le_of_lt (Nat.div_le_self _ _) h), Nm.dig_length_le (by omega) (Nat.lt_of_le_of_lt (Nat.mod_le _ _) h)⟩

theorem law_NatDivides (a b : List Nat) (ha : Nm.Dl 18446744073709551616 a) (hb : Nm.Dl 18446744073709551616 b) (la : a.length ≤ 2 ^ 30) (lb : b.length ≤ 2 ^ 30) :
    Spec Try.prog f_law01_NatDivides [U a, U b] (· = [.pure (.b true)]) := by
  refine spec_at Try.func10 ok_law01_NatDivides [] rfl (by simp) ?_
  unfold sc_law01_NatDivides
  have d0 := ndiv_zero [1] [] (Nm.Dl.cons (by omega) (Nm.Dl.nil _)) (Nm.Dl.nil _) (by simp) (by simp) rfl
  have hv := Nm.val_lt ha
  refine WS_seq (WS_reg [] ?_)
  simp
  refine WS_seq (WS_reg [] ?_)
  simp [uL_one]
  refine callK d0 ?_
  simp
  refine WS_seq (WS_seq (WS_reg [] ?_))
  simp [U]
  by_cases h : (60 : Int) < (a.length : Int)
  · refine WS_cond (t := true) (by simp; omega) (fun _ => ?_) (fun h => by cases h)
    refine WS_seq (WS_reg [] ?_)
    simp
    refine WS_ret ?_
    simp
  · refine WS_cond (t := false) (by simp; omega) (fun h => by cases h) (fun _ => WS_skip ?_)
    simp
    obtain ⟨q, r, e, t1, t2, t3, t4⟩ : ∃ q r : List Nat, ∃ e : Int, (Spec Try.prog f_nat_Div [U a, U b] (· = [.pure (U q), .pure (U r), .pure (.i .i64 e)])) ∧ (Spec Try.prog f_ref01_Div [U a, U b] (· = [.pure (U q), .pure (U r), .pure (.i .i64 e)])) ∧ q.length ≤ 2 ^ 40 ∧ r.length ≤ 2 ^ 40 := by
      by_cases h0 : Nm.val 18446744073709551616 b = 0
      · exact ⟨[], [], 3, ndiv_zero a b ha hb (by omega) (by omega) h0, rdiv_zero a b hb (by omega) h0, by simp, by simp⟩
      · have := div_len (b := Nm.val 18446744073709551616 b) hv
        exact ⟨_, _, 0, ndiv_spec a b ha hb (by omega) (by omega) h0, rdiv_spec a b ha hb (by omega) (by omega) h0, by omega, by omega⟩
    refine WS_seq (WS_reg [] ?_)
    simp
    refine callK t1 ?_
    simp
    refine WS_seq (WS_reg [] ?_)
    simp
    refine callK t2 ?_
    simp
    refine WS_seq (WS_reg [] ?_)
    simp
    refine callK (same_spec _ t3) ?_
    simp
    refine callK (same_spec _ t4) ?_
    simp
    refine WS_ret ?_
    simp

theorem cmp_nil (b : List Nat) (hb : Nm.Dl 18446744073709551616 b) (lb : b.length ≤ 2 ^ 40) : Spec Try.prog f_nat_Cmp [U b, U []] (· = [.pure (.i .i64 (Nm.cmpN (Nm.val 18446744073709551616 b) 0))]) :=
  ncmp_spec b [] hb (Nm.Dl.nil _) lb (by simp)

set_option maxHeartbeats 1000000 in
theorem law_NatRest (a b : List Nat) (ha : Nm.Dl 18446744073709551616 a) (hb : Nm.Dl 18446744073709551616 b) (la : a.length ≤ 2 ^ 24) (lb : b.length ≤ 2 ^ 24) :
    Spec Try.prog f_law01_NatRest [U a, U b] (· = [.pure (.b true)]) := by
  refine spec_at Try.func11 ok_law01_NatRest [] rfl (by simp) ?_
  unfold sc_law01_NatRest
  have w1 := i64_addn a.length b.length (by omega)
  refine WS_seq (WS_reg [] ?_)
  simp
  refine WS_seq (WS_seq (WS_reg [] ?_))
  simp [U, w1]
  by_cases h : (400 : Int) < (a.length : Int) + b.length
  · refine WS_cond (t := true) (by simp; omega) (fun _ => ?_) (fun h => by cases h)
    refine WS_seq (WS_reg [] ?_)
    simp
    refine callK cmp_nil_one ?_
    simp
    refine WS_ret ?_
    simp
  · refine WS_cond (t := false) (by simp; omega) (fun h => by cases h) (fun _ => WS_skip ?_)
    simp
    by_cases h0 : Nm.val 18446744073709551616 b = 0
    · have dz := ndiv_zero a b ha hb (by omega) (by omega) h0
      have cm := cmp_nil b hb (by omega)
      rw [h0] at cm
      refine WS_seq (WS_reg [] ?_)
      simp
      refine callK dz ?_
      simp
      refine WS_seq (WS_seq (WS_reg [] ?_))
      simp
      refine callK cm ?_
      simp [Nm.cmpN]
      refine WS_cond (t := true) (by simp) (fun _ => ?_) (fun h => by cases h)
      refine WS_seq (WS_reg [] ?_)
      simp
      refine callK cmp_nil_one ?_
      simp
      refine WS_ret ?_
      simp
    · have dv := ndiv_spec a b ha hb (by omega) (by omega) h0
      have cm := cmp_nil b hb (by omega)
      have hA := Nm.val_lt ha
      have hB := Nm.val_lt hb
      have na := nnorm_spec a (by omega)
      rw [← Nm.dig_val (by omega) ha] at na
      have mab := mul_spec a b ha hb (by omega) (by omega)
      have mm : Nm.val 18446744073709551616 a * Nm.val 18446744073709551616 b < 18446744073709551616 ^ (a.length + b.length) := by rw [Nat.pow_add]; exact Nat.mul_lt_mul'' hA hB
      have lm := Nm.dig_length_le (B := 18446744073709551616) (by omega) mm
      obtain ⟨l1, l2⟩ := div_len (b := Nm.val 18446744073709551616 b) hA
      have dab := ndiv_spec (Nm.dig 18446744073709551616 (Nm.val 18446744073709551616 a * Nm.val 18446744073709551616 b)) b (Nm.dig_lt (by omega) _) hb (by omega) (by omega) h0
      rw [Nm.val_dig (by omega), Nat.mul_div_cancel _ (by omega), Nat.mul_mod_left, Nm.dig_zero] at dab
      have mq := mul_spec (Nm.dig 18446744073709551616 (Nm.val 18446744073709551616 a / Nm.val 18446744073709551616 b)) b (Nm.dig_lt (by omega) _) hb (by omega) (by omega)
      rw [Nm.val_dig (by omega)] at mq
      have hq : Nm.val 18446744073709551616 a / Nm.val 18446744073709551616 b * Nm.val 18446744073709551616 b ≤ Nm.val 18446744073709551616 a := Nat.div_mul_le_self _ _
      have lq := Nm.dig_length_le (B := 18446744073709551616) (by omega) (Nat.lt_of_le_of_lt hq hA)
      have ad := add_spec (Nm.dig 18446744073709551616 (Nm.val 18446744073709551616 a / Nm.val 18446744073709551616 b * Nm.val 18446744073709551616 b)) (Nm.dig 18446744073709551616 (Nm.val 18446744073709551616 a % Nm.val 18446744073709551616 b)) (Nm.dig_lt (by omega) _) (Nm.dig_lt (by omega) _) (by omega) (by omega)
      rw [Nm.val_dig (by omega), Nm.val_dig (by omega), Nat.mul_comm (_ / _), Nat.div_add_mod, Nat.mul_comm _ (_ / _)] at ad
      have cr := ncmp_spec (Nm.dig 18446744073709551616 (Nm.val 18446744073709551616 a % Nm.val 18446744073709551616 b)) b (Nm.dig_lt (by omega) _) hb (by omega) (by omega)
      rw [Nm.val_dig (by omega)] at cr
      have hml := Nat.mod_lt (Nm.val 18446744073709551616 a) (show 0 < Nm.val 18446744073709551616 b by omega)
      have ecr : Nm.cmpN (Nm.val 18446744073709551616 a % Nm.val 18446744073709551616 b) (Nm.val 18446744073709551616 b) = -1 := by unfold Nm.cmpN; rw [if_pos hml]
      rw [ecr] at cr
      have lA := Nm.dig_length_le (B := 18446744073709551616) (by omega) hA
      have sm := same_spec _ (show (Nm.dig 18446744073709551616 (Nm.val 18446744073709551616 a)).length ≤ 2 ^ 40 by omega)
      have ecm : Nm.cmpN (Nm.val 18446744073709551616 b) 0 = 1 := by unfold Nm.cmpN; rw [if_neg (by omega), if_pos (by omega)]
      rw [ecm] at cm
      clear ecm ecr hml hq mm hA hB l1 l2 lq lm lA
      refine WS_seq (WS_reg [] ?_)
      simp
      refine callK dv ?_
      simp
      refine WS_seq (WS_seq (WS_reg [] ?_))
      simp
      refine callK cm ?_
      simp
      refine WS_cond (t := false) (by simp) (fun h => by cases h) (fun _ => WS_skip ?_)
      simp
      refine WS_seq (WS_reg [] ?_)
      simp
      refine callK mab ?_
      simp
      refine callK dab ?_
      simp
      refine WS_seq (WS_reg [] ?_)
      simp
      refine callK mq ?_
      simp
      refine callK ad ?_
      simp
      refine callK na ?_
      simp
      refine callK sm ?_
      simp
      refine callK cr ?_
      simp
      refine callK na ?_
      simp
      refine callK sm ?_
      simp [U]
      refine WS_ret ?_
      simp [U]
end Go.Vw
