/- The statement NatOrder. -/
import Derived.Test.YtphcdigmgbhjcaaF16
set_option linter.unusedVariables false
set_option linter.unusedSimpArgs false
namespace Go.Vw
open Go.Proofs

attribute [local simp] RunL_cons RunL_nil AOp_none AOp_some acK_v acK_call agK_tt agK_ff agK_tf agK_ft agK_tup agK_i aop aun St.ev St.heap St.put thenQ blockQ upd_apply S0 argSlot lowV V.cells V.isAgg V.fits V.part partOk plains St.ret retSV svOf svsOf retQ retP retAll retOne uL_length uL_get? uL_get St.elems retH ownIdx ownAt
attribute [local simp] RunD_none RunD_some RunD_nil RunE_any acD_v acD_call agD_tt agD_ff agD_tf agD_ft agD_tup entsOf svref SO.opds SO.writes SO.makes callEnt pureSV pureOf RV.isOwn
attribute [local simp] abin_add abin_sub abin_mul abin_quo abin_rem abin_eql abin_neq abin_lss abin_leq abin_gtr abin_geq
attribute [local simp] uL_snoc uL_set uL_take uL_drop uL_append uL_replicate uL_nil
theorem and_1023 (n : Int) : ∃ m : Nat, m ≤ 1023 ∧ abin .and (.i .i64 n) (.i .i64 1023) = some (True, .i .i64 (m : Int)) := by
  refine ⟨(BitVec.ofInt 64 n &&& BitVec.ofInt 64 1023).toNat, ?_, ?_⟩
  · rw [BitVec.toNat_and]
    exact Nat.le_trans Nat.and_le_right (by decide)
  · show some (IntKind.i64 = IntKind.i64, _) = _
    have hle : (BitVec.ofInt 64 n &&& BitVec.ofInt 64 1023).toNat ≤ 1023 := by
      rw [BitVec.toNat_and]
      exact Nat.le_trans Nat.and_le_right (by decide)
    have e : IntKind.i64.wrap (((BitVec.ofInt 64 n &&& BitVec.ofInt 64 1023).toNat : Nat) : Int) = (((BitVec.ofInt 64 n &&& BitVec.ofInt 64 1023).toNat : Nat) : Int) := i64_nat _ (by omega)
    have e' : IntKind.i64.wrap (((BitVec.ofInt IntKind.i64.bits n &&& BitVec.ofInt IntKind.i64.bits 1023).toNat : Nat) : Int) = (((BitVec.ofInt 64 n &&& BitVec.ofInt 64 1023).toNat : Nat) : Int) := e
    rw [e']
    simp

theorem bl_facts (n : Nat) : n < 2 ^ bl n ∧ (bl n ≠ 0 → 2 ^ (bl n - 1) ≤ n) := by
  unfold bl
  by_cases h : n = 0
  · subst h; simp
  · rw [if_neg h]
    exact ⟨(Nat.log2_lt h).1 (by omega), fun _ => by rw [Nat.add_sub_cancel]; exact (Nat.le_log2 h).1 (Nat.le_refl _)⟩

theorem bl_le {n k : Nat} (h : n < 2 ^ k) : bl n ≤ k := by
  unfold bl
  by_cases h0 : n = 0
  · rw [if_pos h0]; omega
  · rw [if_neg h0]
    have := (Nat.log2_lt h0).2 h
    omega

set_option maxHeartbeats 4000000 in
theorem law_NatOrder (a b : List Nat) (ha : Nm.Dl 18446744073709551616 a) (hb : Nm.Dl 18446744073709551616 b) (la : a.length ≤ 2 ^ 24) (lb : b.length ≤ 2 ^ 24) (n : Int) :
    Spec Try.prog f_law01_NatOrder [U a, U b, .i .i64 n] (· = [.pure (.b true)]) := by
  refine spec_at Try.func6 ok_law01_NatOrder [] rfl (by simp) ?_
  unfold sc_law01_NatOrder
  have w1 := i64_addn a.length b.length (by omega)
  obtain ⟨m, hm, hand⟩ := and_1023 n
  have d1 : Nm.Dl 18446744073709551616 [1] := Nm.Dl.cons (by omega) (Nm.Dl.nil _)
  have hva := Nm.val_lt ha
  have hva2 : Nm.val 18446744073709551616 a < 2 ^ (64 * a.length) := by
    rw [show (18446744073709551616 : Nat) = 2 ^ 64 from rfl, ← Nat.pow_mul] at hva; exact hva
  have cab := ncmp_spec a b ha hb (by omega) (by omega)
  have cba := ncmp_spec b a hb ha (by omega) (by omega)
  have sab := sub_spec a b ha hb (by omega) (by omega)
  have bts := nbits_spec a ha (by omega)
  have nA := nnorm_spec a (by omega)
  rw [← Nm.dig_val (by omega) ha] at nA
  have hk := bl_le hva2
  obtain ⟨f1, f2⟩ := bl_facts (Nm.val 18446744073709551616 a)
  have hone : Nm.val 18446744073709551616 [1] = 1 := by decide +kernel
  obtain ⟨A, hAd⟩ : ∃ z, z = Nm.val 18446744073709551616 a := ⟨_, rfl⟩
  obtain ⟨B, hBd⟩ : ∃ z, z = Nm.val 18446744073709551616 b := ⟨_, rfl⟩
  obtain ⟨k, hkd⟩ : ∃ z, z = bl A := ⟨_, rfl⟩
  rw [← hAd] at cab cba sab bts nA hk f1 f2 hva
  rw [← hBd] at cab cba sab
  rw [← hkd] at bts hk f1 f2
  refine WS_seq (WS_reg [] ?_)
  simp
  refine WS_seq (WS_seq (WS_reg [] ?_))
  simp [U, w1]
  by_cases h : (400 : Int) < (a.length : Int) + b.length
  · refine WS_cond (t := true) (by simp; omega) (fun _ => ?_) (fun h => by cases h)
    refine WS_seq (WS_reg [] ?_)
    simp
    refine callK cmp_nil_one ?_
    simp
    refine WS_ret ?_
    simp
  · have hk2 : k ≤ 25600 := by omega
    have hi := nshl_spec [1] d1 (by simp) (k : Int)
    rw [if_neg (by omega), hone, Nat.one_mul, Int.toNat_natCast] at hi
    have lo := nshl_spec [1] d1 (by simp) ((k - 1 : Nat) : Int)
    rw [if_neg (by omega), hone, Nat.one_mul, Int.toNat_natCast] at lo
    have up := nshl_spec a ha (by omega) (m : Int)
    rw [if_neg (by omega), Int.toNat_natCast, ← hAd] at up
    obtain ⟨K, hK⟩ : ∃ K : Nat, K = 401 := ⟨_, rfl⟩
    have p400 : ∀ j : Nat, j ≤ 25600 → 2 ^ j < 18446744073709551616 ^ K := fun j hj => by
      rw [show (18446744073709551616 : Nat) = 2 ^ 64 from rfl, ← Nat.pow_mul]
      exact Nat.pow_lt_pow_right (by omega) (by omega)
    have lhi := Nm.dig_length_le (B := 18446744073709551616) (by omega) (p400 k hk2)
    have llo := Nm.dig_length_le (B := 18446744073709551616) (by omega) (p400 (k - 1) (by omega))
    have lup := Nm.dig_length_le (B := 18446744073709551616) (by omega) (n := A * 2 ^ m) (k := a.length + K) (by rw [Nat.pow_add]; exact Nat.mul_lt_mul'' hva (p400 m (by omega)))
    have chi := ncmp_spec a (Nm.dig 18446744073709551616 (2 ^ k)) ha (Nm.dig_lt (by omega) _) (by omega) (by omega)
    have clo := ncmp_spec a (Nm.dig 18446744073709551616 (2 ^ (k - 1))) ha (Nm.dig_lt (by omega) _) (by omega) (by omega)
    rw [Nm.val_dig (by omega), ← hAd] at chi clo
    have hlt : Nm.cmpN A (2 ^ k) = -1 := by unfold Nm.cmpN; rw [if_pos f1]
    rw [hlt] at chi
    have sh := nshr_spec (Nm.dig 18446744073709551616 (A * 2 ^ m)) (Nm.dig_lt (by omega) _) (by omega) (m : Int) (by omega)
    rw [Nm.val_dig (by omega), Int.toNat_natCast, Nat.mul_div_cancel _ (Nat.pow_pos (by omega))] at sh
    have lA := Nm.dig_length_le (B := 18446744073709551616) (by omega) hva
    have e6 := same_spec _ (show (Nm.dig 18446744073709551616 A).length ≤ 2 ^ 40 by omega)
    obtain ⟨Hi, hHi⟩ : ∃ z, z = Nm.dig 18446744073709551616 (2 ^ k) := ⟨_, rfl⟩
    obtain ⟨Lo, hLo⟩ : ∃ z, z = Nm.dig 18446744073709551616 (2 ^ (k - 1)) := ⟨_, rfl⟩
    obtain ⟨Up, hUp⟩ : ∃ z, z = Nm.dig 18446744073709551616 (A * 2 ^ m) := ⟨_, rfl⟩
    obtain ⟨DA, hDA⟩ : ∃ z, z = Nm.dig 18446744073709551616 A := ⟨_, rfl⟩
    rw [← hHi] at hi chi
    rw [← hLo] at lo clo
    rw [← hUp] at up sh
    rw [← hDA] at sh nA e6
    have x0 : IntKind.i64.wrap 0 = 0 := by decide +kernel
    have x1 : IntKind.i64.wrap (-1) = -1 := by decide +kernel
    have x2 : IntKind.i64.wrap 1 = 1 := by decide +kernel
    have wk : IntKind.i64.wrap ((k : Int) - 1) = (k : Int) - 1 := i64_int _ (by omega) (by omega)
    have hmax : (if 0 > (k : Int) - 1 then (0 : Int) else (k : Int) - 1) = ((k - 1 : Nat) : Int) := by split <;> omega
    have hmax2 : (if (k : Int) - 1 < 0 then (0 : Int) else (k : Int) - 1) = ((k - 1 : Nat) : Int) := by split <;> omega
    obtain ⟨k1, hk1⟩ : ∃ z, z = k - 1 := ⟨_, rfl⟩
    rw [← hk1] at lo hmax hmax2
    have hcase : ∃ (x y e : Int) (L : List Nat), Spec Try.prog f_nat_Cmp [U a, U b] (· = [.pure (.i .i64 x)]) ∧ Spec Try.prog f_nat_Cmp [U b, U a] (· = [.pure (.i .i64 y)]) ∧ Spec Try.prog f_nat_Sub [U a, U b] (· = [.pure (U L), .pure (.i .i64 e)]) ∧
        ((x = -1 ∧ y = 1 ∧ e = 1) ∨ (x = 0 ∧ y = 0 ∧ e = 0) ∨ (x = 1 ∧ y = -1 ∧ e = 0)) := by
      refine ⟨Nm.cmpN A B, Nm.cmpN B A, if B ≤ A then 0 else 1, if B ≤ A then Nm.dig 18446744073709551616 (A - B) else [], cab, cba, ?_, ?_⟩
      · by_cases hle : B ≤ A
        · rw [if_pos hle] at sab; rw [if_pos hle, if_pos hle]; exact sab
        · rw [if_neg hle] at sab; rw [if_neg hle, if_neg hle]; exact sab
      · unfold Nm.cmpN
        by_cases h1 : A < B
        · rw [if_pos h1, if_neg (by omega), if_pos (show B > A by omega), if_neg (by omega)]; simp
        · by_cases h2 : B < A
          · rw [if_neg h1, if_pos (show A > B by omega), if_pos h2, if_pos (by omega)]; simp
          · rw [if_neg h1, if_neg (show ¬ A > B by omega), if_neg h2, if_neg (show ¬ B > A by omega), if_pos (by omega)]; simp
    obtain ⟨x, y, e, L, cab, cba, sab, hxye⟩ := hcase
    refine WS_cond (t := false) (by simp; omega) (fun h => by cases h) (fun _ => WS_skip ?_)
    simp
    refine WS_seq (WS_reg [] ?_)
    simp
    refine callK cab ?_
    simp
    refine WS_seq (WS_reg [] ?_)
    simp
    refine callK sab ?_
    simp
    refine WS_seq (WS_reg [] ?_)
    simp
    refine callK bts ?_
    simp
    refine WS_seq (WS_reg [] ?_)
    simp [wk, hmax, hmax2]
    refine callK lo ?_
    simp
    refine WS_seq (WS_reg [] ?_)
    simp
    refine callK hi ?_
    simp
    refine WS_seq (WS_reg [] ?_)
    simp [hand]
    refine callK up ?_
    simp
    by_cases hk0 : k = 0
    · rcases hxye with ⟨rfl, rfl, rfl⟩ | ⟨rfl, rfl, rfl⟩ | ⟨rfl, rfl, rfl⟩
      all_goals
        refine WS_seq (WS_reg [] ?_)
        simp
        refine callK cba ?_
        simp [x0, x1, x2]
        refine callK chi ?_
        simp [hk0, hand]
        refine callK sh ?_
        simp
        refine callK nA ?_
        simp
        refine callK e6 ?_
        simp
        refine callK cmp_nil_one ?_
        simp
        refine WS_ret ?_
        simp
    · have hge : ∃ z : Int, Nm.cmpN A (2 ^ (k - 1)) = z ∧ 0 ≤ z := ⟨_, rfl, by have := f2 hk0; unfold Nm.cmpN; rw [if_neg (by omega)]; split <;> omega⟩
      obtain ⟨z, hz1, hz2⟩ := hge
      have hkb : ((k : Int) == 0) = false := by simp; exact hk0
      rw [hz1] at clo
      rcases hxye with ⟨rfl, rfl, rfl⟩ | ⟨rfl, rfl, rfl⟩ | ⟨rfl, rfl, rfl⟩
      all_goals
        refine WS_seq (WS_reg [] ?_)
        simp
        refine callK cba ?_
        simp [x0, x1, x2]
        refine callK chi ?_
        simp [hkb]
        refine callK clo ?_
        simp [hz2, hand]
        refine callK sh ?_
        simp
        refine callK nA ?_
        simp
        refine callK e6 ?_
        simp
        refine callK cmp_nil_one ?_
        simp
        refine WS_ret ?_
        simp
end Go.Vw
