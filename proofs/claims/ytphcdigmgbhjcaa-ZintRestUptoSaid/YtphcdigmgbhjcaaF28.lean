/- nat's results as rows of the caller's own: moved, Shl, Sub, less. -/
import Derived.Test.YtphcdigmgbhjcaaF5
import Derived.Test.YtphcdigmgbhjcaaF15
import Derived.Test.YtphcdigmgbhjcaaF27
set_option linter.unusedVariables false
set_option linter.unusedSimpArgs false
namespace Go.Vw
open Go.Proofs

attribute [local simp] RunL_cons RunL_nil AOp_none AOp_some acK_v acK_call agK_tt agK_ff agK_tf agK_ft agK_tup agK_i aop aun St.ev St.heap St.put thenQ blockQ upd_apply S0 argSlot lowV V.cells V.isAgg V.fits V.part partOk plains St.ret retSV svOf svsOf retQ retP retAll retOne uL_length uL_get? uL_get St.elems retH ownIdx ownAt
attribute [local simp] RunD_none RunD_some RunD_nil RunE_any acD_v acD_call agD_tt agD_ff agD_tf agD_ft agD_tup entsOf svref SO.opds SO.writes SO.makes callEnt pureSV pureOf RV.isOwn
attribute [local simp] abin_add abin_sub abin_mul abin_quo abin_rem abin_eql abin_neq abin_lss abin_leq abin_gtr abin_geq
attribute [local simp] uL_snoc uL_set uL_take uL_drop uL_append uL_replicate uL_nil
attribute [local simp] acK_callG acD_callG St.giv gsSV gvSV retEnts ownEnts SO.still
attribute [local simp] S0G argSlotG givSV retQG retPG retAllG retOneG HObj.width V.scalar trimQ V.byte
theorem moved_own (a : List Nat) (n : Nat) (hl : a.length ≤ 2 ^ 40) (hn : n ≤ 2 ^ 40) : Spec Try.prog f_nat_moved [U a, .i .i64 (n : Int)] (· = [.own 30 none (uL (List.replicate n 0 ++ a))]) := by
  refine spec_at Try.func125 ok_nat_moved [true] rfl (by simp) ?_
  unfold sc_nat_moved U
  refine WS_seq (WS_reg [] ?_)
  simp
  refine WS_seq (WS_reg [] ?_)
  simp
  refine ⟨by omega, by omega, ?_⟩
  refine WS_ret ?_
  simp [take_all' (show (List.replicate n 0 ++ a).length = n + a.length by simp)]

theorem take_trim (l : List Nat) : l.take (Nm.trim l).length = Nm.trim l := (Nm.trim_take l).symm

theorem nshl_own (a : List Nat) (ha : Nm.Dl 18446744073709551616 a) (hl : a.length ≤ 2 ^ 38) (m : Nat) (h2 : ¬ (262144 : Int) < (m : Int)) :
    Spec Try.prog f_nat_Shl [U a, .i .i64 (m : Int)] (· = [.own 30 none (uL (Nm.dig 18446744073709551616 (Nm.val 18446744073709551616 a * 2 ^ m))), .pure (.i .i64 0)]) := by
  refine spec_at Try.func33 ok_nat_Shl [true] rfl (by simp) ?_
  unfold sc_nat_Shl
  refine WS_seq (WS_reg [] ?_)
  simp [U]
  refine WS_frz 2 2 none ?_
  simp [frzQ]
  refine WS_frz 3 3 none ?_
  simp [frzQ]
  refine WS_seq (WS_seq (WS_reg [] ?_))
  have h1 : ¬ (m : Int) < 0 := by omega
  simp [h1, h2]
  refine WS_cond (t := false) (by simp) (fun h => by cases h) (fun _ => ?_)
  refine WS_skip ?_
  simp
  obtain ⟨q, hq⟩ : ∃ q, q = m / 64 := ⟨_, rfl⟩
  obtain ⟨s, hs⟩ : ∃ s, s = m % 64 := ⟨_, rfl⟩
  have hd : (m : Int).tdiv 64 = (q : Int) := by have := tdiv_nat m 64; rw [← hq] at this; exact this
  have hwq := i64_nat q (by omega)
  have hB : (2 : Nat) ^ (s + (64 - s)) = 18446744073709551616 := by rw [show s + (64 - s) = 64 by omega]
  have hrun := Nm.crun_shl (s := s) (t := 64 - s) (a := a) (by rw [hB]; exact ha)
  rw [hB] at hrun
  obtain ⟨hr, hc⟩ := hrun
  have hs64 : 2 ^ s ≤ 2 ^ 63 := Nat.pow_le_pow_right (by omega) (by omega)
  have hdig := shl_digits (B := 18446744073709551616) (q := q) (k := a.length) (N := Nm.val 18446744073709551616 a * 2 ^ s) (by omega) (by omega)
  have hval : 18446744073709551616 ^ q * (Nm.val 18446744073709551616 a * 2 ^ s) = Nm.val 18446744073709551616 a * 2 ^ m := by
    have e : (18446744073709551616 : Nat) ^ q * 2 ^ s = 2 ^ m := by
      rw [show (18446744073709551616 : Nat) = 2 ^ 64 from rfl, ← Nat.pow_mul, ← Nat.pow_add]; congr 1; omega
    rw [Nat.mul_left_comm, e]
  rw [hval] at hdig
  have hlen := Nm.pad_length 18446744073709551616 a.length (Nm.val 18446744073709551616 a * 2 ^ s)
  obtain ⟨L, hL⟩ : ∃ L, L = Nm.pad 18446744073709551616 a.length (Nm.val 18446744073709551616 a * 2 ^ s) := ⟨_, rfl⟩
  obtain ⟨c, hcd⟩ : ∃ c, c = Nm.val 18446744073709551616 a * 2 ^ s / 18446744073709551616 ^ a.length := ⟨_, rfl⟩
  rw [← hL, ← hcd] at hr hdig
  rw [← hL] at hlen
  refine WS_seq (WS_reg [] ?_)
  simp
  refine callK (carried_spec a.length (by omega) 123 [.ref none (U a), .ref none (.i .i64 (m : Int))] (Nm.shlF 18446744073709551616 s a) (fun c => c < 2 ^ s) (Nat.pow_pos (by omega)) (fun k c hk hc => ⟨shl1_spec a ha k c m s hs.symm hk hc (by omega), Nat.div_lt_of_lt_mul (Nat.mul_lt_mul_of_pos_right (ha.get (by omega) k) (Nat.pow_pos (by omega)))⟩)) ?_
  simp [hr]
  obtain ⟨M, hM⟩ : ∃ M, M = List.replicate q 0 ++ (L ++ [c]) := ⟨_, rfl⟩
  have hMl : M.length = q + (a.length + 1) := by simp [hM, hlen]
  have mo := moved_own (L ++ [c]) q (by simp [hlen]; omega) (by omega)
  rw [← hM] at mo hdig
  have hle := Nm.trim_length_le M
  refine WS_seq (WS_regD [24] ?_)
  simp [hlen, take_all' hlen, hd, hwq]
  refine ⟨by omega, ?_⟩
  refine callDO mo ?_
  simp
  refine callGD (plain_given M (by omega)) ?_
  simp
  refine ⟨rfl, ?_⟩
  refine WS_ret ?_
  rw [← hdig]
  simp [U, hle, take_trim]

theorem sub_own (a b : List Nat) (ha : Nm.Dl 18446744073709551616 a) (hb : Nm.Dl 18446744073709551616 b) (la : a.length ≤ 2 ^ 40) (lb : b.length ≤ 2 ^ 40) (h : Nm.val 18446744073709551616 b ≤ Nm.val 18446744073709551616 a) :
    Spec Try.prog f_nat_Sub [U a, U b] (· = [.own 30 none (uL (Nm.dig 18446744073709551616 (Nm.val 18446744073709551616 a - Nm.val 18446744073709551616 b))), .pure (.i .i64 0)]) := by
  refine spec_at Try.func40 ok_nat_Sub [true] rfl (by simp) ?_
  unfold sc_nat_Sub
  refine WS_seq (WS_reg [] ?_)
  simp [U]
  refine WS_frz 2 2 none ?_
  simp [frzQ]
  refine WS_frz 3 3 none ?_
  simp [frzQ]
  refine WS_seq (WS_reg [] ?_)
  simp [max_len]
  obtain ⟨hr1, hr2⟩ := Nm.crun_sub (by omega) ha hb (n := max a.length b.length) (by omega) (by omega)
  refine callK (carried_spec (max a.length b.length) (by omega) 134 [.ref none (U a), .ref none (U b)] (Nm.subF 18446744073709551616 a b) (· ≤ 1) (by omega) (fun k c hk hc => ⟨sub1_spec a b k c hc, Nm.sub_carry _ a b k c⟩)) ?_
  have hv := Nm.val_lt ha
  have hp := Nm.trim_pad (B := 18446744073709551616) (by omega) (k := max a.length b.length) (n := Nm.val 18446744073709551616 a - Nm.val 18446744073709551616 b) (Nat.lt_of_le_of_lt (Nat.sub_le _ _) (Nat.lt_of_lt_of_le hv (Nat.pow_le_pow_right (by omega) (by omega))))
  have hl := Nm.pad_length 18446744073709551616 (max a.length b.length) (Nm.val 18446744073709551616 a - Nm.val 18446744073709551616 b)
  have hr := hr1 h
  obtain ⟨L, hL⟩ : ∃ L, L = Nm.pad 18446744073709551616 (max a.length b.length) (Nm.val 18446744073709551616 a - Nm.val 18446744073709551616 b) := ⟨_, rfl⟩
  rw [← hL] at hp hl hr
  have hle := Nm.trim_length_le L
  simp [hr, U]
  refine WS_seq (WS_seq (WS_reg [] ?_))
  simp
  refine WS_cond (t := false) (by simp) (fun h => by cases h) (fun _ => ?_)
  refine WS_skip ?_
  simp
  refine WS_seq (WS_reg [] ?_)
  simp
  refine callG (plain_given L (by omega)) ?_
  simp
  refine WS_ret ?_
  rw [← hp]
  simp [hle, take_trim]

theorem less_own (a b : List Nat) (ha : Nm.Dl 18446744073709551616 a) (hb : Nm.Dl 18446744073709551616 b) (la : a.length ≤ 2 ^ 40) (lb : b.length ≤ 2 ^ 40) (h : Nm.val 18446744073709551616 b ≤ Nm.val 18446744073709551616 a) :
    Spec Try.prog f_nat_less [U a, U b] (· = [.own 30 none (uL (Nm.dig 18446744073709551616 (Nm.val 18446744073709551616 a - Nm.val 18446744073709551616 b)))]) := by
  refine spec_at Try.func131 ok_nat_less [true] rfl (by simp) ?_
  unfold sc_nat_less
  refine WS_seq (WS_reg [] ?_)
  simp
  refine WS_seq (WS_reg [] ?_)
  simp
  refine callK (sub_own a b ha hb la lb h) ?_
  simp
  refine WS_seq (WS_reg [] ?_)
  simp
  refine WS_ret ?_
  simp [take_all']
end Go.Vw
