/- nat.guess: a limb of the quotient, not too small. -/
import Derived.Test.YtphcdigmgbhjcaaF20
set_option linter.unusedVariables false
set_option linter.unusedSimpArgs false
namespace Go.Vw
open Go.Proofs

attribute [local simp] RunL_cons RunL_nil AOp_none AOp_some acK_v acK_call agK_tt agK_ff agK_tf agK_ft agK_tup agK_i aop aun St.ev St.heap St.put thenQ blockQ upd_apply S0 argSlot lowV V.cells V.isAgg V.fits V.part partOk plains St.ret retSV svOf svsOf retQ retP retAll retOne uL_length uL_get? uL_get St.elems retH ownIdx ownAt
attribute [local simp] RunD_none RunD_some RunD_nil RunE_any acD_v acD_call agD_tt agD_ff agD_tf agD_ft agD_tup entsOf svref SO.opds SO.writes SO.makes callEnt pureSV pureOf RV.isOwn
attribute [local simp] abin_add abin_sub abin_mul abin_quo abin_rem abin_eql abin_neq abin_lss abin_leq abin_gtr abin_geq
attribute [local simp] uL_snoc uL_set uL_take uL_drop uL_append uL_replicate uL_nil
attribute [local simp] acK_callG acD_callG St.giv gsSV gvSV retEnts ownEnts SO.still
attribute [local simp] S0G argSlotG givSV retQG retPG retAllG retOneG HObj.width V.scalar trimQ V.byte
theorem guess_cmp {p r u : Nat} (hu : u < 18446744073709551616) :
    (p / 18446744073709551616 < r → p ≤ 18446744073709551616 * r + u) ∧ (¬ p / 18446744073709551616 < r → p / 18446744073709551616 = r → p % 18446744073709551616 ≤ u → p ≤ 18446744073709551616 * r + u) ∧
    (¬ p / 18446744073709551616 < r → p / 18446744073709551616 = r → ¬ p % 18446744073709551616 ≤ u → 18446744073709551616 * r + u < p) ∧ (¬ p / 18446744073709551616 < r → ¬ p / 18446744073709551616 = r → 18446744073709551616 * r + u < p) := by
  refine ⟨fun h => by omega, fun h1 h2 h3 => by omega, fun h1 h2 h3 => by omega, fun h1 h2 => by omega⟩

theorem guess_next {A v1 q r T : Nat} (hqr : q * v1 + r = A) (h : T < q) : 1 ≤ q ∧ (q - 1) * v1 + (r + v1) = A ∧ T ≤ q - 1 ∧ q - 1 < q := by
  obtain ⟨p, rfl⟩ : ∃ p, q = p + 1 := ⟨q - 1, by omega⟩
  rw [Nat.add_mul, Nat.one_mul] at hqr
  rw [Nat.add_sub_cancel]
  omega

theorem guess_spec (u2 u1 u0 v1 v0 : Nat) (h2 : u2 < 18446744073709551616) (h1 : u1 < 18446744073709551616) (h0 : u0 < 18446744073709551616) (hv1 : v1 < 18446744073709551616) (hv0 : v0 < 18446744073709551616) (hpos : 0 < v1) :
    Spec Try.prog f_nat_guess [.i .u64 (u2 : Int), .i .u64 (u1 : Int), .i .u64 (u0 : Int), .i .u64 (v1 : Int), .i .u64 (v0 : Int)] (fun r => ∃ x : Nat, r = [.pure (.i .u64 (x : Int))] ∧ x < 18446744073709551616 ∧
      (∀ t : Nat, t < 18446744073709551616 → t ≤ ((u2 * 18446744073709551616 + u1) * 18446744073709551616 + u0) / (v1 * 18446744073709551616 + v0) → t ≤ x)) := by
  refine spec_at Try.func152 ok_nat_guess [] rfl (by simp) ?_
  unfold sc_nat_guess
  obtain ⟨A, hA⟩ : ∃ z, z = u2 * 18446744073709551616 + u1 := ⟨_, rfl⟩
  rw [← hA]
  obtain ⟨T, hT⟩ : ∃ z, z = (A * 18446744073709551616 + u0) / (v1 * 18446744073709551616 + v0) := ⟨_, rfl⟩
  rw [← hT]
  refine WS_seq (WS_reg [] ?_)
  simp
  refine WS_seq (WS_seq (WS_reg [] ?_))
  simp
  by_cases hge : v1 ≤ u2
  · refine WS_cond (t := true) (by simp [hge]) (fun _ => ?_) (fun h => by cases h)
    refine WS_seq (WS_reg [] ?_)
    simp
    refine WS_ret ?_
    simp
    exact ⟨18446744073709551615, rfl, by omega, fun t h _ => by omega⟩
  · have hlt : u2 < v1 := by omega
    have hAlt : A < v1 * 18446744073709551616 + v0 := by
      have : (u2 + 1) * 18446744073709551616 ≤ v1 * 18446744073709551616 := Nat.mul_le_mul_right _ hlt
      omega
    have gf := Nm.guess_first (v1 := v1) (v0 := v0) (A := A) (u := u0) (D := 18446744073709551616) hpos h0
    rw [← hT] at gf
    have dv := div64_spec u2 u1 v1 (by omega) hlt hv1 h1
    rw [← hA] at dv
    have fit : A / v1 < 18446744073709551616 := by rw [hA]; exact short_fit hlt h1
    have dm := Nat.div_add_mod A v1
    have ml := Nat.mod_lt A hpos
    rw [Nat.mul_comm] at dm
    obtain ⟨Q, hQ⟩ : ∃ z, z = A / v1 := ⟨_, rfl⟩
    obtain ⟨M, hM⟩ : ∃ z, z = A % v1 := ⟨_, rfl⟩
    rw [← hQ] at gf dv fit dm
    rw [← hM] at dv dm ml
    refine WS_cond (t := false) (by simp; omega) (fun h => by cases h) (fun _ => WS_skip ?_)
    simp
    refine WS_seq (WS_reg [] ?_)
    simp
    refine callK dv ?_
    simp
    refine WS_block (WS_loop (fun S => ∃ q r : Nat, S.σ 2 = .p (.i .u64 (u0 : Int)) ∧ S.σ 3 = .p (.i .u64 (v1 : Int)) ∧ S.σ 4 = .p (.i .u64 (v0 : Int)) ∧ S.σ 11 = .p (.i .u64 (q : Int)) ∧ S.σ 12 = .p (.i .u64 (r : Int)) ∧ q * v1 + r = A ∧ T ≤ q ∧ q < 18446744073709551616 ∧ r < 18446744073709551616)
      (fun S => match S.σ 11 with | .p (.i _ k) => k.toNat | _ => 0) ⟨Q, M, by simp, by simp, by simp, by simp, by simp, dm, gf, fit, by omega⟩ ?_)
    rintro S ⟨q, r, s2, s3, s4, s11, s12, hqr, hTq, hq, hr⟩
    have mu := mul64_spec q v0 hq hv0
    obtain ⟨c1, c2, c3, c4⟩ := guess_cmp (p := q * v0) (r := r) h0
    have down : 18446744073709551616 * r + u0 < q * v0 → T < q := fun h => Nm.guess_down (by omega) hT hAlt h0 hqr (.inr h)
    have n5 : 1 ≤ q → IntKind.u64.wrap ((q : Int) - 1) = ((q - 1 : Nat) : Int) := fun h => u64_sub q 1 h hq
    have nx : T < q → _ := fun h => guess_next hqr h
    have ad := add64_spec r v1 0 (by omega)
    rw [Nat.add_zero] at ad
    have ad' : Spec Try.prog 139 [.i .u64 (r : Int), .i .u64 (v1 : Int), .i .u64 0] (· = [.pure (.i .u64 (((r + v1) % 18446744073709551616 : Nat) : Int)), .pure (.i .u64 (((r + v1) / 18446744073709551616 : Nat) : Int))]) := ad
    obtain ⟨p, hp⟩ : ∃ z, z = q * v0 := ⟨_, rfl⟩
    rw [← hp] at mu c1 c2 c3 c4 down
    obtain ⟨hi, hhi⟩ : ∃ z, z = p / 18446744073709551616 := ⟨_, rfl⟩
    obtain ⟨lo, hlo⟩ : ∃ z, z = p % 18446744073709551616 := ⟨_, rfl⟩
    rw [← hhi] at mu c1 c2 c3 c4
    rw [← hlo] at mu c2 c3
    obtain ⟨sm, hsm⟩ : ∃ z, z = (r + v1) % 18446744073709551616 := ⟨_, rfl⟩
    obtain ⟨cy, hcy⟩ : ∃ z, z = (r + v1) / 18446744073709551616 := ⟨_, rfl⟩
    rw [← hsm, ← hcy] at ad'
    have hsm2 : cy = 0 → sm = r + v1 := fun h => by omega
    have hsmlt : sm < 18446744073709551616 := by rw [hsm]; exact Nat.mod_lt _ (by omega)
    have hcase : (hi < r) ∨ (¬ hi < r ∧ hi = r ∧ lo ≤ u0) ∨ (¬ hi < r ∧ hi = r ∧ ¬ lo ≤ u0) ∨ (¬ hi < r ∧ ¬ hi = r) := by omega
    refine WS_block (WS_seq (WS_reg [] ?_))
    simp [s4, s11]
    refine callK mu ?_
    simp
    refine WS_seq (WS_seq (WS_reg [] ?_))
    rcases hcase with k1 | ⟨k1, k2, k3⟩ | ⟨k1, k2, k3⟩ | ⟨k1, k2⟩
    · simp [s12, k1]
      refine WS_cond (t := true) (by simp) (fun _ => ?_) (fun h => by cases h)
      refine WS_seq (WS_reg [] ?_)
      simp [s11]
      refine WS_ret ?_
      simp
      exact ⟨q, rfl, hq, fun t _ h => Nat.le_trans h hTq⟩
    · simp [s2, s12, k2, k3]
      refine WS_cond (t := true) (by simp) (fun _ => ?_) (fun h => by cases h)
      refine WS_seq (WS_reg [] ?_)
      simp [s11]
      refine WS_ret ?_
      simp
      exact ⟨q, rfl, hq, fun t _ h => Nat.le_trans h hTq⟩
    · have hd := down (c3 k1 k2 k3)
      obtain ⟨e1, e2, e3, e4⟩ := nx hd
      have n5 := n5 e1
      obtain ⟨q', hq'⟩ : ∃ z, z = q - 1 := ⟨_, rfl⟩
      rw [← hq'] at n5 e2 e3 e4
      simp [s2, s12, k2, k3]
      refine WS_cond (t := false) (by simp) (fun h => by cases h) (fun _ => WS_skip ?_)
      simp
      refine WS_seq (WS_reg [] ?_)
      simp [s11, n5]
      refine WS_seq (WS_reg [] ?_)
      simp [s3, s12]
      refine callK ad' ?_
      simp
      refine WS_seq (WS_seq (WS_reg [] ?_))
      simp
      by_cases hc : 0 < cy
      · refine WS_cond (t := true) (by simp; omega) (fun _ => ?_) (fun h => by cases h)
        refine WS_seq (WS_reg [] ?_)
        simp
        refine WS_ret ?_
        simp
        exact ⟨q', rfl, by omega, fun t _ h => Nat.le_trans h e3⟩
      · refine WS_cond (t := false) (by simp; omega) (fun h => by cases h) (fun _ => WS_skip ?_)
        simp
        refine WS_reg [] ?_
        simp [s2, s3, s4]
        exact ⟨⟨q', rfl, sm, rfl, by rw [hsm2 (by omega)]; exact e2, e3, by omega, hsmlt⟩, e4⟩
    · have hd := down (c4 k1 k2)
      obtain ⟨e1, e2, e3, e4⟩ := nx hd
      have n5 := n5 e1
      obtain ⟨q', hq'⟩ : ∃ z, z = q - 1 := ⟨_, rfl⟩
      rw [← hq'] at n5 e2 e3 e4
      have k2' : ((hi : Int) == (r : Int)) = false := by simp; omega
      simp [s2, s12, k1, k2']
      refine WS_cond (t := false) (by simp) (fun h => by cases h) (fun _ => WS_skip ?_)
      simp
      refine WS_seq (WS_reg [] ?_)
      simp [s11, n5]
      refine WS_seq (WS_reg [] ?_)
      simp [s3, s12]
      refine callK ad' ?_
      simp
      refine WS_seq (WS_seq (WS_reg [] ?_))
      simp
      by_cases hc : 0 < cy
      · refine WS_cond (t := true) (by simp; omega) (fun _ => ?_) (fun h => by cases h)
        refine WS_seq (WS_reg [] ?_)
        simp
        refine WS_ret ?_
        simp
        exact ⟨q', rfl, by omega, fun t _ h => Nat.le_trans h e3⟩
      · refine WS_cond (t := false) (by simp; omega) (fun h => by cases h) (fun _ => WS_skip ?_)
        simp
        refine WS_reg [] ?_
        simp [s2, s3, s4]
        exact ⟨⟨q', rfl, sm, rfl, by rw [hsm2 (by omega)]; exact e2, e3, by omega, hsmlt⟩, e4⟩
end Go.Vw
