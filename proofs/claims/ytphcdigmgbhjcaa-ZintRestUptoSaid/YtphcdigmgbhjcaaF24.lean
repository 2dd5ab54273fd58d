/- nat.Div by nought and by one limb. -/
import Derived.Test.YtphcdigmgbhjcaaF23
set_option linter.unusedVariables false
set_option linter.unusedSimpArgs false
namespace Go.Vw
open Go.Proofs

attribute [local simp] RunL_cons RunL_nil AOp_none AOp_some acK_v acK_call agK_tt agK_ff agK_tf agK_ft agK_tup agK_i aop aun St.ev St.heap St.put thenQ blockQ upd_apply S0 argSlot lowV V.cells V.isAgg V.fits V.part partOk plains St.ret retSV svOf svsOf retQ retP retAll retOne uL_length uL_get? uL_get St.elems retH ownIdx ownAt
attribute [local simp] RunD_none RunD_some RunD_nil RunE_any acD_v acD_call agD_tt agD_ff agD_tf agD_ft agD_tup entsOf svref SO.opds SO.writes SO.makes callEnt pureSV pureOf RV.isOwn
attribute [local simp] abin_add abin_sub abin_mul abin_quo abin_rem abin_eql abin_neq abin_lss abin_leq abin_gtr abin_geq
attribute [local simp] uL_snoc uL_set uL_take uL_drop uL_append uL_replicate uL_nil
attribute [local simp] acK_callG acD_callG St.giv gsSV gvSV retEnts ownEnts SO.still
attribute [local simp] S0G argSlotG givSV retQG retPG retAllG retOneG HObj.width V.scalar trimQ V.byte
theorem ndiv_zero (a b : List Nat) (ha : Nm.Dl 18446744073709551616 a) (hb : Nm.Dl 18446744073709551616 b) (la : a.length ≤ 2 ^ 40) (lb : b.length ≤ 2 ^ 40) (h0 : Nm.val 18446744073709551616 b = 0) :
    Spec Try.prog f_nat_Div [U a, U b] (· = [.pure (U []), .pure (U []), .pure (.i .i64 3)]) := by
  refine spec_at Try.func54 ok_nat_Div [] rfl (by simp) ?_
  unfold sc_nat_Div
  have p1 := plain_spec a (by omega)
  have p2 := plain_spec b (by omega)
  rw [← Nm.dig_val (by omega) hb, h0, Nm.dig_zero] at p2
  refine WS_seq (WS_reg [] ?_)
  simp
  refine WS_seq (WS_reg [] ?_)
  simp
  refine callK p1 ?_
  simp
  refine callK p2 ?_
  simp
  refine WS_seq (WS_block (WS_seq (WS_reg [] ?_)))
  simp [U]
  refine WS_cond (t := true) (by simp) (fun _ => ?_) (fun h => by cases h)
  refine WS_seq (WS_reg [] ?_)
  simp
  refine WS_ret ?_
  simp

theorem ndiv_one (a b : List Nat) (ha : Nm.Dl 18446744073709551616 a) (hb : Nm.Dl 18446744073709551616 b) (la : a.length ≤ 2 ^ 38) (lb : b.length ≤ 2 ^ 38) (h0 : 0 < Nm.val 18446744073709551616 b) (h1 : Nm.val 18446744073709551616 b < 18446744073709551616) :
    Spec Try.prog f_nat_Div [U a, U b] (· = [.pure (U (Nm.dig 18446744073709551616 (Nm.val 18446744073709551616 a / Nm.val 18446744073709551616 b))), .pure (U (Nm.dig 18446744073709551616 (Nm.val 18446744073709551616 a % Nm.val 18446744073709551616 b))), .pure (.i .i64 0)]) := by
  refine spec_at Try.func54 ok_nat_Div [] rfl (by simp) ?_
  unfold sc_nat_Div
  have p1 := plain_spec a (by omega)
  have p2 := plain_spec b (by omega)
  have l1 := Nm.trim_length_le a
  rw [← Nm.dig_val (by omega) ha] at p1 l1
  rw [← Nm.dig_val (by omega) hb] at p2
  obtain ⟨va, hva⟩ : ∃ v, v = Nm.val 18446744073709551616 a := ⟨_, rfl⟩
  obtain ⟨x, hx⟩ : ∃ v, v = Nm.val 18446744073709551616 b := ⟨_, rfl⟩
  rw [← hva] at p1 l1 ⊢
  rw [← hx] at p2 h0 h1 ⊢
  have hy : Nm.dig 18446744073709551616 x = [x] := by
    rw [Nm.dig_pos (by omega) h0, Nat.mod_eq_of_lt h1, Nat.div_eq_of_lt h1, Nm.dig_zero]
  rw [hy] at p2
  have d1 := Nm.dig_lt (B := 18446744073709551616) (by omega) va
  have v1 := Nm.val_dig (B := 18446744073709551616) (by omega) va
  have t1 := Nm.trim_dig (B := 18446744073709551616) (by omega) va
  have dx : Nm.Dl 18446744073709551616 [x] := Nm.Dl.cons h1 (Nm.Dl.nil _)
  have vx : Nm.val 18446744073709551616 [x] = x := by simp [Nm.val]
  have cm := ncmp_spec (Nm.dig 18446744073709551616 va) [x] d1 dx (by omega) (by simp)
  rw [v1, vx] at cm
  have nn := nnorm_spec (Nm.dig 18446744073709551616 va) (by omega)
  rw [t1] at nn
  have sh := short_spec (Nm.dig 18446744073709551616 va) d1 x h0 h1 (by omega)
  rw [v1] at sh
  have hr : va % x < 18446744073709551616 := Nat.lt_trans (Nat.mod_lt _ h0) h1
  have pr := plain_spec [va % x] (by simp)
  have tr : Nm.trim [va % x] = Nm.dig 18446744073709551616 (va % x) := by
    rw [← Nm.dig_val (by omega) (Nm.Dl.cons hr (Nm.Dl.nil 18446744073709551616))]
    simp [Nm.val]
  rw [tr] at pr
  have small : va < x → Nm.dig 18446744073709551616 (va / x) = [] ∧ Nm.dig 18446744073709551616 (va % x) = Nm.dig 18446744073709551616 va := fun h => by
    rw [Nat.div_eq_of_lt h, Nat.mod_eq_of_lt h]; exact ⟨Nm.dig_zero _, rfl⟩
  obtain ⟨Q, hQ⟩ : ∃ z, z = Nm.dig 18446744073709551616 (va / x) := ⟨_, rfl⟩
  obtain ⟨R, hR⟩ : ∃ z, z = Nm.dig 18446744073709551616 (va % x) := ⟨_, rfl⟩
  obtain ⟨r, hrd⟩ : ∃ z, z = va % x := ⟨_, rfl⟩
  obtain ⟨L, hL⟩ : ∃ z, z = Nm.dig 18446744073709551616 va := ⟨_, rfl⟩
  rw [← hQ, ← hR] at small ⊢
  rw [← hQ, ← hrd] at sh
  rw [← hR, ← hrd] at pr
  rw [← hL] at p1 small nn cm sh
  refine WS_seq (WS_reg [] ?_)
  simp
  refine WS_seq (WS_reg [] ?_)
  simp
  refine callK p1 ?_
  simp
  refine callK p2 ?_
  simp
  refine WS_seq (WS_block (WS_seq (WS_reg [] ?_)))
  simp [U]
  refine WS_cond (t := false) (by simp) (fun h => by cases h) (fun _ => ?_)
  refine WS_seq (WS_reg [] ?_)
  simp
  refine callK cm ?_
  by_cases h : va < x
  · have e : Nm.cmpN va x = -1 := by unfold Nm.cmpN; rw [if_pos h]
    rw [e]
    simp
    refine WS_cond (t := true) (by simp) (fun _ => ?_) (fun h => by cases h)
    refine WS_seq (WS_reg [] ?_)
    simp
    refine callK nn ?_
    simp
    refine WS_ret ?_
    obtain ⟨s1, s2⟩ := small h
    rw [s1, s2]
    simp [U]
  · have e : Nm.cmpN va x = 0 ∨ Nm.cmpN va x = 1 := by unfold Nm.cmpN; rw [if_neg h]; split <;> simp
    rcases e with e | e
    all_goals
      rw [e]
      simp
      refine WS_cond (t := false) (by simp) (fun h => by cases h) (fun _ => ?_)
      refine WS_seq (WS_reg [] ?_)
      simp [uL]
      refine WS_cond (t := true) (by simp) (fun _ => ?_) (fun h => by cases h)
      refine WS_seq (WS_reg [] ?_)
      simp [uL]
      refine callK sh ?_
      simp
      refine WS_seq (WS_reg [] ?_)
      simp
      refine callK pr ?_
      simp
      refine WS_ret ?_
      simp [U, uL]
end Go.Vw
