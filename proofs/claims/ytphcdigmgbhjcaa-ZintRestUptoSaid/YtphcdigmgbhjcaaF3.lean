/- Functions of nat: sums, differences, shifts. -/
import Derived.Test.YtphcdigmgbhjcaaF2
set_option linter.unusedVariables false
set_option linter.unusedSimpArgs false
namespace Go.Vw
open Go.Proofs

attribute [local simp] RunL_cons RunL_nil AOp_none AOp_some acK_v acK_call agK_tt agK_ff agK_tf agK_ft agK_tup agK_i aop aun St.ev St.heap St.put thenQ blockQ upd_apply S0 argSlot lowV V.cells V.isAgg V.fits V.part partOk plains St.ret retSV svOf svsOf retQ retP retAll retOne uL_length uL_get? uL_get St.elems retH ownIdx ownAt
attribute [local simp] RunD_none RunD_some RunD_nil RunE_any acD_v acD_call agD_tt agD_ff agD_tf agD_ft agD_tup entsOf svref SO.opds SO.writes SO.makes callEnt pureSV pureOf RV.isOwn
attribute [local simp] abin_add abin_sub abin_mul abin_quo abin_rem abin_eql abin_neq abin_lss abin_leq abin_gtr abin_geq
attribute [local simp] uL_snoc uL_set uL_take uL_drop uL_append uL_replicate uL_nil
attribute [local simp] acK_callG acD_callG St.giv gsSV gvSV retEnts ownEnts SO.still
attribute [local simp] S0G argSlotG givSV retQG retPG retAllG retOneG HObj.width V.scalar trimQ V.byte

theorem add1_spec (a b : List Nat) (k c : Nat) (hc : c ≤ 1) : Spec Try.prog f_nat_Add_1 ([.i .i64 (k : Int), .i .u64 (c : Int)] ++ [.ref none (U a), .ref none (U b)]) (· = [.pure (.i .u64 ((Nm.addF 18446744073709551616 a b k c).1 : Nat)), .pure (.i .u64 ((Nm.addF 18446744073709551616 a b k c).2 : Nat))]) := by
  refine spec_at Try.func138 ok_nat_Add_1 [] rfl (by simp) ?_
  unfold sc_nat_Add_1
  refine WS_seq (WS_reg [] ?_)
  simp
  refine WS_seq (WS_regD [] ?_)
  simp
  refine callD (at_spec a k (by omega)) rfl ?_
  simp
  refine callD (at_spec b k (by omega)) rfl ?_
  simp
  refine callD (add64_spec _ _ _ hc) rfl ?_
  simp
  refine ⟨rfl, ?_⟩
  refine WS_ret ?_
  simp [Nm.addF]

theorem sub1_spec (a b : List Nat) (k c : Nat) (hc : c ≤ 1) : Spec Try.prog f_nat_Sub_1 ([.i .i64 (k : Int), .i .u64 (c : Int)] ++ [.ref none (U a), .ref none (U b)]) (· = [.pure (.i .u64 ((Nm.subF 18446744073709551616 a b k c).1 : Nat)), .pure (.i .u64 ((Nm.subF 18446744073709551616 a b k c).2 : Nat))]) := by
  refine spec_at Try.func134 ok_nat_Sub_1 [] rfl (by simp) ?_
  unfold sc_nat_Sub_1
  refine WS_seq (WS_reg [] ?_)
  simp
  refine WS_seq (WS_regD [] ?_)
  simp
  refine callD (at_spec a k (by omega)) rfl ?_
  simp
  refine callD (at_spec b k (by omega)) rfl ?_
  simp
  refine callD (sub64_spec _ _ _ hc) rfl ?_
  simp
  refine ⟨rfl, ?_⟩
  refine WS_ret ?_
  simp [Nm.subF]

theorem max_len (m n : Nat) : (if m < n then (n : Int) else (m : Int)) = ((max m n : Nat) : Int) := by split <;> omega

theorem trim_pad_snoc {B : Nat} (hB : 2 ≤ B) {k N : Nat} (h : N / B ^ k < B) : Nm.trim (Nm.pad B k N ++ [N / B ^ k]) = Nm.dig B N := by
  rw [Nm.pad_cat N k h, Nm.trim_pad hB]
  rw [Nat.pow_succ, Nat.mul_comm]
  exact (Nat.div_lt_iff_lt_mul (Nat.pow_pos (by omega))).1 h

theorem add_spec (a b : List Nat) (ha : Nm.Dl 18446744073709551616 a) (hb : Nm.Dl 18446744073709551616 b) (la : a.length ≤ 2 ^ 40) (lb : b.length ≤ 2 ^ 40) :
    Spec Try.prog f_nat_Add [U a, U b] (· = [.pure (U (Nm.dig 18446744073709551616 (Nm.val 18446744073709551616 a + Nm.val 18446744073709551616 b)))]) := by
  refine spec_at Try.func42 ok_nat_Add [] rfl (by simp) ?_
  unfold sc_nat_Add
  refine WS_seq (WS_reg [] ?_)
  simp [U]
  refine WS_frz 2 2 none ?_
  simp [frzQ]
  refine WS_frz 3 3 none ?_
  simp [frzQ]
  refine WS_seq (WS_reg [] ?_)
  simp [max_len]
  obtain ⟨hr, hc⟩ := Nm.crun_add (by omega) ha hb (n := max a.length b.length) (by omega) (by omega)
  have hp := trim_pad_snoc (B := 18446744073709551616) (by omega) (k := max a.length b.length) (N := Nm.val 18446744073709551616 a + Nm.val 18446744073709551616 b) (by omega)
  have hl := Nm.pad_length 18446744073709551616 (max a.length b.length) (Nm.val 18446744073709551616 a + Nm.val 18446744073709551616 b)
  generalize Nm.pad 18446744073709551616 (max a.length b.length) (Nm.val 18446744073709551616 a + Nm.val 18446744073709551616 b) = L at *
  generalize (Nm.val 18446744073709551616 a + Nm.val 18446744073709551616 b) / 18446744073709551616 ^ max a.length b.length = c at *
  refine callK (carried_spec (max a.length b.length) (by omega) 138 [.ref none (U a), .ref none (U b)] (Nm.addF 18446744073709551616 a b) (· ≤ 1) (by omega) (fun k c hk hc => ⟨add1_spec a b k c hc, Nm.add_carry _ a b k c (by omega) ha hb hc⟩)) ?_
  simp [hr]
  refine WS_seq (WS_reg [20] ?_)
  simp [hl, take_all' hl]
  refine ⟨by omega, ?_⟩
  refine callK (plain_spec (L ++ [c]) (by simp [hl]; omega)) ?_
  simp
  refine WS_ret ?_
  simp [U, hp]

theorem sub_spec (a b : List Nat) (ha : Nm.Dl 18446744073709551616 a) (hb : Nm.Dl 18446744073709551616 b) (la : a.length ≤ 2 ^ 40) (lb : b.length ≤ 2 ^ 40) :
    Spec Try.prog f_nat_Sub [U a, U b] (· = if Nm.val 18446744073709551616 b ≤ Nm.val 18446744073709551616 a then [.pure (U (Nm.dig 18446744073709551616 (Nm.val 18446744073709551616 a - Nm.val 18446744073709551616 b))), .pure (.i .i64 0)] else [.pure (U []), .pure (.i .i64 1)]) := by
  refine spec_at Try.func40 ok_nat_Sub [] rfl (by simp) ?_
  unfold sc_nat_Sub
  refine WS_seq (WS_reg [] ?_)
  simp [U]
  refine WS_frz 2 2 none ?_
  simp [frzQ]
  refine WS_frz 3 3 none ?_
  simp [frzQ]
  refine WS_seq (WS_reg [] ?_)
  simp [max_len]
  obtain ⟨hr1, hr2⟩ := Nm.crun_sub (by omega) ha hb (n := max a.length b.length) (by omega) (by omega)
  refine callK ((carried_spec (max a.length b.length) (by omega) 134 [.ref none (U a), .ref none (U b)] (Nm.subF 18446744073709551616 a b) (· ≤ 1) (by omega) (fun k c hk hc => ⟨sub1_spec a b k c hc, Nm.sub_carry _ a b k c⟩)).plain (R' := (· = [.pure (U (Nm.crun (Nm.subF 18446744073709551616 a b) (max a.length b.length)).1), .pure (.i .u64 ((Nm.crun (Nm.subF 18446744073709551616 a b) (max a.length b.length)).2 : Nat))])) (by rintro _ rfl; rfl)) ?_
  have hv := Nm.val_lt ha
  by_cases h : Nm.val 18446744073709551616 b ≤ Nm.val 18446744073709551616 a
  · have hp := Nm.trim_pad (B := 18446744073709551616) (by omega) (k := max a.length b.length) (n := Nm.val 18446744073709551616 a - Nm.val 18446744073709551616 b) (Nat.lt_of_le_of_lt (Nat.sub_le _ _) (Nat.lt_of_lt_of_le hv (Nat.pow_le_pow_right (by omega) (by omega))))
    have hl := Nm.pad_length 18446744073709551616 (max a.length b.length) (Nm.val 18446744073709551616 a - Nm.val 18446744073709551616 b)
    have hr := hr1 h
    generalize Nm.pad 18446744073709551616 (max a.length b.length) (Nm.val 18446744073709551616 a - Nm.val 18446744073709551616 b) = L at *
    simp [hr, h, U]
    refine WS_seq (WS_seq (WS_reg [] ?_))
    simp
    refine WS_cond (by simp; rfl) (fun h => by simp at h) (fun _ => ?_)
    refine WS_skip ?_
    simp
    refine WS_seq (WS_reg [] ?_)
    simp
    refine callK (plain_spec L (by omega)) ?_
    simp
    refine WS_ret ?_
    simp [U, hp]
  · have hr := hr2 (by omega)
    simp [hr, h, U]
    refine WS_seq (WS_seq (WS_reg [] ?_))
    simp
    refine WS_cond (by simp; rfl) (fun _ => ?_) (fun h => by simp at h)
    refine WS_seq (WS_reg [] ?_)
    simp
    refine WS_ret ?_
    simp

end Go.Vw
