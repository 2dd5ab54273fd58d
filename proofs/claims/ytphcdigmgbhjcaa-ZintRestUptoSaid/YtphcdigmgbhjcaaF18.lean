/- Functions of math/bits: quotient and rest of two limbs by one. -/
import Derived.Test.YtphcdigmgbhjcaaF12
import Derived.Test.YtphcdigmgbhjcaaF13
set_option linter.unusedVariables false
set_option linter.unusedSimpArgs false
namespace Go.Vw
open Go.Proofs

attribute [local simp] RunL_cons RunL_nil AOp_none AOp_some acK_v acK_call agK_tt agK_ff agK_tf agK_ft agK_tup agK_i aop aun St.ev St.heap St.put thenQ blockQ upd_apply S0 argSlot lowV V.cells V.isAgg V.fits V.part partOk plains St.ret retSV svOf svsOf retQ retP retAll retOne uL_length uL_get? uL_get St.elems retH ownIdx ownAt
attribute [local simp] RunD_none RunD_some RunD_nil RunE_any acD_v acD_call agD_tt agD_ff agD_tf agD_ft agD_tup entsOf svref SO.opds SO.writes SO.makes callEnt pureSV pureOf RV.isOwn
attribute [local simp] abin_add abin_sub abin_mul abin_quo abin_rem abin_eql abin_neq abin_lss abin_leq abin_gtr abin_geq
attribute [local simp] uL_snoc uL_set uL_take uL_drop uL_append uL_replicate uL_nil
attribute [local simp] acK_callG acD_callG St.giv gsSV gvSV retEnts ownEnts SO.still
attribute [local simp] S0G argSlotG givSV retQG retPG retAllG retOneG HObj.width V.scalar trimQ V.byte
theorem bitLen_le64 {x : Nat} (hx : x < 18446744073709551616) : Lib.bitLen x ≤ 64 := by
  by_cases h0 : x = 0
  · subst h0; rw [bitLen_zero]; omega
  · by_cases h65 : Lib.bitLen x ≤ 64
    · exact h65
    · have := (bitLen_spec x h0 hx).2
      have h3 : 2 ^ 65 ≤ 2 ^ Lib.bitLen x := Nat.pow_le_pow_right (by omega) (by omega)
      omega

theorem lz_spec (x : Nat) (hx : x < 18446744073709551616) : Spec Try.prog f_bits_LeadingZeros64 [.i .u64 (x : Int)] (· = [.pure (.i .i64 ((64 - Lib.bitLen x : Nat) : Int))]) := by
  refine spec_at Try.func151 ok_bits_LeadingZeros64 [] rfl (by simp) ?_
  unfold sc_bits_LeadingZeros64
  have hb := bitLen_le64 hx
  have l := len64_spec x hx
  obtain ⟨k, hk⟩ : ∃ k, k = Lib.bitLen x := ⟨_, rfl⟩
  rw [← hk] at hb l ⊢
  have w : IntKind.i64.wrap (64 - (k : Int)) = ((64 - k : Nat) : Int) := by rw [i64_int _ (by omega) (by omega)]; omega
  obtain ⟨j, hj⟩ : ∃ j, j = 64 - k := ⟨_, rfl⟩
  rw [← hj] at w ⊢
  refine WS_seq (WS_reg [] ?_)
  simp
  refine WS_seq (WS_reg [] ?_)
  simp
  refine callK l ?_
  simp [w]
  refine WS_ret ?_
  simp

/-- What the first half asks of the numbers. -/
theorem d64_start {hi lo y : Nat} (hy : y ≠ 0) (hlt : hi < y) (hy64 : y < 18446744073709551616) (hlo : lo < 18446744073709551616) :
    ∃ s yn v1 v0 A L u1 u0 T1 R T0 : Nat, s = 64 - Lib.bitLen y ∧ s < 64 ∧ yn = y * 2 ^ s ∧ yn < 18446744073709551616 ∧ v1 = yn / 4294967296 ∧ v0 = yn % 4294967296 ∧ 2147483648 ≤ v1 ∧ v1 < 4294967296 ∧
      hi * 2 ^ s < 18446744073709551616 ∧ (hi * 2 ^ s ||| lo / 2 ^ (64 - s)) = A ∧ lo / 2 ^ (64 - s) < 18446744073709551616 ∧ A < yn ∧ L = lo * 2 ^ s % 18446744073709551616 ∧ u1 = L / 4294967296 ∧ u0 = L % 4294967296 ∧
      T1 = (A * 4294967296 + u1) / (v1 * 4294967296 + v0) ∧ v1 * 4294967296 + v0 = yn ∧ R = A * 4294967296 + u1 - T1 * yn ∧ T1 * yn ≤ A * 4294967296 + u1 ∧ R < yn ∧ T1 < 4294967296 ∧
      T0 = (R * 4294967296 + u0) / (v1 * 4294967296 + v0) ∧ T0 < 4294967296 ∧ T0 * yn ≤ R * 4294967296 + u0 ∧ R * 4294967296 + u0 - T0 * yn < 18446744073709551616 ∧
      T1 * 4294967296 + T0 = (hi * 18446744073709551616 + lo) / y ∧ (R * 4294967296 + u0 - T0 * yn) / 2 ^ s = (hi * 18446744073709551616 + lo) % y := by
  have hb := bitLen_le64 hy64
  obtain ⟨b1, b2⟩ := bitLen_spec y hy hy64
  have hbp : 0 < Lib.bitLen y := by
    rcases Nat.eq_zero_or_pos (Lib.bitLen y) with h | h
    · rw [h] at b1; omega
    · exact h
  obtain ⟨k, hk⟩ : ∃ k, k = Lib.bitLen y := ⟨_, rfl⟩
  rw [← hk] at hb b1 b2 hbp ⊢
  obtain ⟨s, hs⟩ : ∃ s, s = 64 - k := ⟨_, rfl⟩
  have hps : 0 < 2 ^ s := Nat.pow_pos (by omega)
  have hk64 : 2 ^ k * 2 ^ s = 18446744073709551616 := by rw [← Nat.pow_add, show k + s = 64 by omega]
  have hks : 2 ^ (64 - s) * 2 ^ s = 18446744073709551616 := by rw [← Nat.pow_add, show 64 - s + s = 64 by omega]
  have y1 : y * 2 ^ s < 18446744073709551616 := by rw [← hk64]; exact Nat.mul_lt_mul_of_pos_right b1 hps
  have y2 : 18446744073709551616 ≤ 2 * (y * 2 ^ s) := by
    have := Nat.mul_le_mul_right (2 ^ s) b2
    rw [hk64, Nat.mul_assoc] at this
    exact this
  have hhi : hi * 2 ^ s < y * 2 ^ s := Nat.mul_lt_mul_of_pos_right hlt hps
  have hlow : lo / 2 ^ (64 - s) < 2 ^ s := Nat.div_lt_of_lt_mul (by rw [hks]; exact hlo)
  have hor : (hi * 2 ^ s ||| lo / 2 ^ (64 - s)) = hi * 2 ^ s + lo / 2 ^ (64 - s) := or_apart hlow
  obtain ⟨A, hA⟩ : ∃ A, A = hi * 2 ^ s + lo / 2 ^ (64 - s) := ⟨_, rfl⟩
  have hsh : lo * 2 ^ s / 18446744073709551616 = lo / 2 ^ (64 - s) := by rw [← hks, Nat.mul_div_mul_right _ _ hps]
  have hwhole : A * 18446744073709551616 + lo * 2 ^ s % 18446744073709551616 = (hi * 18446744073709551616 + lo) * 2 ^ s := by
    have := Nat.div_add_mod (lo * 2 ^ s) 18446744073709551616
    rw [hsh] at this
    have e : hi * 18446744073709551616 * 2 ^ s = hi * 2 ^ s * 18446744073709551616 := Nat.mul_right_comm ..
    rw [hA, Nat.add_mul, Nat.add_mul, e]
    omega
  have hAy : A < y * 2 ^ s := by
    have h1 : hi * 18446744073709551616 + lo < y * 18446744073709551616 := by
      have : (hi + 1) * 18446744073709551616 ≤ y * 18446744073709551616 := Nat.mul_le_mul_right _ hlt
      omega
    have h2 : (hi * 18446744073709551616 + lo) * 2 ^ s < y * 18446744073709551616 * 2 ^ s := Nat.mul_lt_mul_of_pos_right h1 hps
    rw [← hwhole, Nat.mul_right_comm] at h2
    omega
  obtain ⟨yn, hyn⟩ : ∃ yn, yn = y * 2 ^ s := ⟨_, rfl⟩
  rw [← hyn] at y1 y2 hhi hAy
  obtain ⟨L, hL⟩ : ∃ L, L = lo * 2 ^ s % 18446744073709551616 := ⟨_, rfl⟩
  rw [← hL] at hwhole
  have hL64 : L < 18446744073709551616 := by rw [hL]; exact Nat.mod_lt _ (by omega)
  have hyy : yn / 4294967296 * 4294967296 + yn % 4294967296 = yn := Nat.div_add_mod' ..
  have td := Nm.two_digits (y := yn) (A := A) (u1 := L / 4294967296) (u0 := L % 4294967296) (D := 4294967296) (by omega) hAy (by omega) (by omega)
  obtain ⟨c1, c2, c3, c4, c5⟩ := td
  have hLL : L / 4294967296 * 4294967296 + L % 4294967296 = L := Nat.div_add_mod' ..
  rw [hLL, show 4294967296 * 4294967296 = 18446744073709551616 from rfl, hwhole, hyn, Nat.mul_div_mul_right _ _ hps, ← hyn] at c4
  rw [hLL, show 4294967296 * 4294967296 = 18446744073709551616 from rfl, hwhole, hyn, Nat.mul_mod_mul_right, ← hyn] at c5
  obtain ⟨T1, hT1⟩ : ∃ T1, T1 = (A * 4294967296 + L / 4294967296) / yn := ⟨_, rfl⟩
  rw [← hT1] at c1 c2 c3 c4 c5
  have hle1 : T1 * yn ≤ A * 4294967296 + L / 4294967296 := by rw [hT1]; exact Nat.div_mul_le_self _ _
  obtain ⟨R, hR⟩ : ∃ R, R = A * 4294967296 + L / 4294967296 - T1 * yn := ⟨_, rfl⟩
  rw [← hR] at c1 c3 c4 c5
  obtain ⟨T0, hT0⟩ : ∃ T0, T0 = (R * 4294967296 + L % 4294967296) / yn := ⟨_, rfl⟩
  rw [← hT0] at c3 c4 c5
  have hle0 : T0 * yn ≤ R * 4294967296 + L % 4294967296 := by rw [hT0]; exact Nat.div_mul_le_self _ _
  have hmod : (hi * 18446744073709551616 + lo) % y * 2 ^ s < 18446744073709551616 := by
    have : (hi * 18446744073709551616 + lo) % y * 2 ^ s < y * 2 ^ s := Nat.mul_lt_mul_of_pos_right (Nat.mod_lt _ (by omega)) hps
    rw [← hyn] at this; omega
  refine ⟨s, yn, yn / 4294967296, yn % 4294967296, A, L, L / 4294967296, L % 4294967296, T1, R, T0, hs, by omega, hyn, y1, rfl, rfl, by omega, by omega, by omega, by rw [hor, hA], by omega, hAy, hL, rfl, rfl,
    by rw [hyy]; exact hT1, hyy, hR, hle1, c1, c2, by rw [hyy]; exact hT0, c3, hle0, by rw [← c5]; exact hmod, c4.symm, ?_⟩
  rw [← c5, Nat.mul_div_cancel _ hps]
end Go.Vw
