/- math/bits Div64; quotient and rest by one limb. -/
import Derived.Test.YtphcdigmgbhjcaaF18
set_option linter.unusedVariables false
set_option linter.unusedSimpArgs false
namespace Go.Vw
open Go.Proofs

attribute [local simp] RunL_cons RunL_nil AOp_none AOp_some acK_v acK_call agK_tt agK_ff agK_tf agK_ft agK_tup agK_i aop aun St.ev St.heap St.put thenQ blockQ upd_apply S0 argSlot lowV V.cells V.isAgg V.fits V.part partOk plains St.ret retSV svOf svsOf retQ retP retAll retOne uL_length uL_get? uL_get St.elems retH ownIdx ownAt
attribute [local simp] RunD_none RunD_some RunD_nil RunE_any acD_v acD_call agD_tt agD_ff agD_tf agD_ft agD_tup entsOf svref SO.opds SO.writes SO.makes callEnt pureSV pureOf RV.isOwn
attribute [local simp] abin_add abin_sub abin_mul abin_quo abin_rem abin_eql abin_neq abin_lss abin_leq abin_gtr abin_geq
attribute [local simp] uL_snoc uL_set uL_take uL_drop uL_append uL_replicate uL_nil
attribute [local simp] acK_callG acD_callG St.giv gsSV gvSV retEnts ownEnts SO.still
attribute [local simp] S0G argSlotG givSV retQG retPG retAllG retOneG HObj.width V.scalar trimQ V.byte
theorem guess_le {A v1 v0 : Nat} (h1 : 2147483648 ≤ v1) (hA : A < v1 * 4294967296 + v0) (h0 : v0 < 4294967296) : A / v1 ≤ 4294967297 := by
  have h : A / v1 < 4294967298 := (Nat.div_lt_iff_lt_mul (by omega)).2 (by omega)
  omega

theorem big_le (r : Nat) (h : (4294967296 : Int) ≤ (r : Int)) : 4294967296 ≤ r := by omega
theorem big_lt (r : Nat) (h : ¬ (4294967296 : Int) ≤ (r : Int)) : r < 4294967296 := by omega

theorem start_facts {A v1 Q P r : Nat} (hv : 2147483648 ≤ v1) (hv' : v1 < 4294967296) (dm : P + A % v1 = A) (hP : P = Q * v1) (hr : r = A - P) : Q * v1 + r = A ∧ r < 4294967296 := by
  have := Nat.mod_lt A (show 0 < v1 by omega)
  rw [← hP]; omega

theorem over_done {v1 v0 A u q r T : Nat} (hT : T = (A * 4294967296 + u) / (v1 * 4294967296 + v0)) (hy : 0 < v1 * 4294967296 + v0) (hqr : q * v1 + r = A) (hge : T ≤ q) (h0 : v0 < 4294967296) (hq : q ≤ 4294967296) (hr : 4294967296 ≤ r) : q = T := by
  refine Nm.guess_done hT hy hqr hge ?_
  have h1 : q * v0 ≤ 4294967296 * 4294967295 := Nat.mul_le_mul hq (by omega)
  have h2 : 4294967296 * 4294967296 ≤ 4294967296 * r := Nat.mul_le_mul_left _ hr
  omega

theorem d64_step {v1 v0 A u q r T : Nat} (hT : T = (A * 4294967296 + u) / (v1 * 4294967296 + v0)) (h1 : 2147483648 ≤ v1) (h1' : v1 < 4294967296) (h0 : v0 < 4294967296) (hu : u < 4294967296) (hA : A < v1 * 4294967296 + v0)
    (hqr : q * v1 + r = A) (hge : T ≤ q) (hq : q ≤ 4294967297) (hr : r < 4294967296) :
    (4294967296 ≤ q → T < q) ∧ (q < 4294967296 → q * v0 < 18446744073709551616 ∧ 4294967296 * r < 18446744073709551616 ∧ 4294967296 * r + u < 18446744073709551616 ∧ (4294967296 * r + u < q * v0 → T < q) ∧ (q * v0 ≤ 4294967296 * r + u → q = T)) ∧
    (T < q → 1 ≤ q ∧ q < 18446744073709551616 ∧ (q - 1) * v1 + (r + v1) = A ∧ T ≤ q - 1 ∧ q - 1 ≤ 4294967297 ∧ r + v1 < 18446744073709551616 ∧ q - 1 < q ∧ (4294967296 ≤ r + v1 → q - 1 = T)) := by
  refine ⟨fun h => Nm.guess_down (by omega) hT hA hu hqr (.inl h), fun h => ?_, fun h => ?_⟩
  · have h2 : q * v0 ≤ 4294967295 * 4294967295 := Nat.mul_le_mul (by omega) (by omega)
    exact ⟨by omega, by omega, by omega, fun h3 => Nm.guess_down (by omega) hT hA hu hqr (.inr h3), fun h3 => Nm.guess_done hT (by omega) hqr hge h3⟩
  · have e : (q - 1) * v1 + (r + v1) = A := by
      obtain ⟨p, rfl⟩ : ∃ p, q = p + 1 := ⟨q - 1, by omega⟩
      rw [Nat.add_mul, Nat.one_mul] at hqr
      rw [Nat.add_sub_cancel]; omega
    exact ⟨by omega, by omega, e, by omega, by omega, by omega, by omega, fun h3 => over_done hT (by omega) e (by omega) h0 (by omega) h3⟩

set_option maxHeartbeats 400000 in
theorem div64_spec (hi lo y : Nat) (hy : y ≠ 0) (hlt : hi < y) (hy64 : y < 18446744073709551616) (hlo : lo < 18446744073709551616) :
    Spec Try.prog f_bits_Div64 [.i .u64 (hi : Int), .i .u64 (lo : Int), .i .u64 (y : Int)] (· = [.pure (.i .u64 (((hi * 18446744073709551616 + lo) / y : Nat) : Int)), .pure (.i .u64 (((hi * 18446744073709551616 + lo) % y : Nat) : Int))]) := by
  refine spec_at Try.func166 ok_bits_Div64 [] rfl (by simp) ?_
  unfold sc_bits_Div64
  obtain ⟨Qv, hQv⟩ : ∃ z, z = (hi * 18446744073709551616 + lo) / y := ⟨_, rfl⟩
  obtain ⟨Mv, hMv⟩ : ∃ z, z = (hi * 18446744073709551616 + lo) % y := ⟨_, rfl⟩
  rw [← hQv, ← hMv]
  have hy0 : ¬ (y : Int) = 0 := by omega
  refine WS_seq (WS_reg [] ?_)
  simp
  refine WS_seq (WS_seq (WS_reg [] ?_))
  simp
  refine WS_cond (t := false) (by simp; omega) (fun h => by cases h) (fun _ => WS_skip ?_)
  simp
  refine WS_seq (WS_seq (WS_reg [] ?_))
  simp
  refine WS_cond (t := false) (by simp; omega) (fun h => by cases h) (fun _ => WS_skip ?_)
  simp
  refine WS_seq (WS_seq (WS_reg [] ?_))
  simp
  by_cases hh : hi = 0
  · subst hh
    have q1 : (lo : Int).tdiv y = ((lo / y : Nat) : Int) := tdiv_nat lo y
    have q2 : (lo : Int).tmod y = ((lo % y : Nat) : Int) := tmod_nat lo y
    have q3 : IntKind.u64.wrap ((lo / y : Nat) : Int) = ((lo / y : Nat) : Int) := u64_fit _ (Nat.lt_of_le_of_lt (Nat.div_le_self _ _) hlo)
    rw [Nat.zero_mul, Nat.zero_add] at hQv hMv
    rw [← hQv] at q1 q3
    rw [← hMv] at q2
    refine WS_cond (t := true) (by simp) (fun _ => ?_) (fun h => by cases h)
    refine WS_seq (WS_regD [] ?_)
    simp [q1, q2, q3, hy]
    refine ⟨rfl, ?_⟩
    refine WS_ret ?_
    simp
  · obtain ⟨s, yn, v1, v0, A, L, u1, u0, T1, R, T0, hs, hs64, hyn, hyn64, hv1, hv0, hv1lo, hv1hi, hsh, hor, hlosh, hAyn, hL, hu1, hu0, hT1, hyy, hR, hle1, hRy, hT1D, hT0, hT0D, hle0, hR0, hQ, hMod⟩ := d64_start hy hlt hy64 hlo
    have lz := lz_spec y hy64
    rw [← hs] at lz
    rw [← hQ] at hQv
    rw [← hMod] at hMv
    have hv0D : v0 < 4294967296 := by omega
    have hu1D : u1 < 4294967296 := by omega
    have hu0D : u0 < 4294967296 := by omega
    have hypos : 0 < v1 * 4294967296 + v0 := by omega
    have k0 := u64_fit s (by omega)
    have e1 := abin_shl (k := .u64) y (s : Int) s rfl (by omega)
    rw [← hyn, Nat.mod_eq_of_lt hyn64] at e1
    have e2 := abin_shr (k := .u64) yn 32 32 rfl (by omega)
    have e2' : yn / 2 ^ 32 = v1 := hv1.symm
    rw [e2'] at e2
    have e3 := abin_mask32 yn hyn64
    rw [← hv0] at e3
    have e4 := abin_shl (k := .u64) hi (s : Int) s rfl (by omega)
    rw [Nat.mod_eq_of_lt hsh] at e4
    have e5 : IntKind.u64.wrap (64 - (s : Int)) = ((64 - s : Nat) : Int) := u64_sub 64 s (by omega) (by omega)
    have e6 := abin_shr (k := .u64) lo ((64 - s : Nat) : Int) (64 - s) rfl (by omega)
    have e7 := abin_or (hi * 2 ^ s) (lo / 2 ^ (64 - s)) hsh hlosh
    rw [hor] at e7
    have e8 := abin_shl (k := .u64) lo (s : Int) s rfl (by omega)
    rw [← hL] at e8
    have hL64 : L < 18446744073709551616 := by rw [hL]; exact Nat.mod_lt _ (by omega)
    have e9 := abin_shr (k := .u64) L 32 32 rfl (by omega)
    have e9' : L / 2 ^ 32 = u1 := hu1.symm
    rw [e9'] at e9
    have e10 := abin_mask32 L hL64
    rw [← hu0] at e10
    obtain ⟨hs1, hhs1⟩ : ∃ z, z = hi * 2 ^ s := ⟨_, rfl⟩
    obtain ⟨ls1, hls1⟩ : ∃ z, z = lo / 2 ^ (64 - s) := ⟨_, rfl⟩
    obtain ⟨cs, hcs⟩ : ∃ z, z = 64 - s := ⟨_, rfl⟩
    rw [← hhs1] at e4 e7
    rw [← hls1] at e6 e7
    rw [← hcs] at e5 e6
    have hA64 : A < 18446744073709551616 := by omega
    have hv1z : v1 ≠ 0 := by omega
    have dm1 := Nat.div_add_mod A v1
    have ml1 := Nat.mod_lt A (show 0 < v1 by omega)
    have gl1 := guess_le hv1lo (by rw [hyy]; exact hAyn) hv0D
    have gf1 := Nm.guess_first (v1 := v1) (v0 := v0) (A := A) (u := u1) (D := 4294967296) (by omega) hu1D
    rw [← hT1] at gf1
    have f1 : (A : Int).tdiv v1 = ((A / v1 : Nat) : Int) := tdiv_nat A v1
    obtain ⟨Q1, hQ1⟩ : ∃ z, z = A / v1 := ⟨_, rfl⟩
    rw [← hQ1] at dm1 gl1 gf1 f1
    have f2 := u64_fit Q1 (by omega)
    rw [Nat.mul_comm] at dm1
    have f3 := u64_mulf Q1 v1 (by omega)
    have f4 := u64_sub A (Q1 * v1) (by omega) hA64
    obtain ⟨P1, hP1⟩ : ∃ z, z = Q1 * v1 := ⟨_, rfl⟩
    rw [← hP1] at dm1 f3 f4
    obtain ⟨r1, hr1⟩ : ∃ z, z = A - P1 := ⟨_, rfl⟩
    rw [← hr1] at f4
    -- the rest of the first digit
    have g1 := u64_mul A 4294967296
    have g1' : IntKind.u64.wrap ((A : Int) * 4294967296) = ((A * 4294967296 % 18446744073709551616 : Nat) : Int) := g1
    have g2 := u64_add (A * 4294967296 % 18446744073709551616) u1
    have g3 := u64_mul T1 yn
    have g4 := u64_subw ((A * 4294967296 % 18446744073709551616 + u1) % 18446744073709551616) (T1 * yn % 18446744073709551616) (Nat.mod_lt _ (by omega)) (Nat.mod_lt _ (by omega))
    have wr := Nm.wrap_rest (X := A * 4294967296) (Y := T1 * yn) (u := u1) hle1 (by rw [← hR]; exact Nat.lt_trans hRy hyn64)
    rw [wr, ← hR] at g4
    obtain ⟨z1, hz1⟩ : ∃ z, z = A * 4294967296 % 18446744073709551616 := ⟨_, rfl⟩
    obtain ⟨z3, hz3⟩ : ∃ z, z = T1 * yn % 18446744073709551616 := ⟨_, rfl⟩
    rw [← hz1] at g1' g2 g4
    rw [← hz3] at g3 g4
    obtain ⟨z2, hz2⟩ : ∃ z, z = (z1 + u1) % 18446744073709551616 := ⟨_, rfl⟩
    rw [← hz2] at g2 g4
    -- the second guess
    have hRyn : R < v1 * 4294967296 + v0 := by rw [hyy]; exact hRy
    have dm2 := Nat.div_add_mod R v1
    have ml2 := Nat.mod_lt R (show 0 < v1 by omega)
    have gl2 := guess_le hv1lo hRyn hv0D
    have gf2 := Nm.guess_first (v1 := v1) (v0 := v0) (A := R) (u := u0) (D := 4294967296) (by omega) hu0D
    rw [← hT0] at gf2
    have i1 : (R : Int).tdiv v1 = ((R / v1 : Nat) : Int) := tdiv_nat R v1
    obtain ⟨Q0, hQ0⟩ : ∃ z, z = R / v1 := ⟨_, rfl⟩
    rw [← hQ0] at dm2 gl2 gf2 i1
    have i2 := u64_fit Q0 (by omega)
    rw [Nat.mul_comm] at dm2
    have i3 := u64_mulf Q0 v1 (by omega)
    have i4 := u64_sub R (Q0 * v1) (by omega) (by omega)
    obtain ⟨P0, hP0⟩ : ∃ z, z = Q0 * v1 := ⟨_, rfl⟩
    rw [← hP0] at dm2 i3 i4
    obtain ⟨r0, hr0⟩ : ∃ z, z = R - P0 := ⟨_, rfl⟩
    rw [← hr0] at i4
    -- the end
    have j1 : IntKind.u64.wrap ((T1 : Int) * 4294967296) = ((T1 * 4294967296 : Nat) : Int) := u64_mulf T1 4294967296 (by omega)
    have j2 := u64_addf (T1 * 4294967296) T0 (by omega)
    have j3 : IntKind.u64.wrap ((R : Int) * 4294967296) = ((R * 4294967296 % 18446744073709551616 : Nat) : Int) := u64_mul R 4294967296
    have j4 := u64_add (R * 4294967296 % 18446744073709551616) u0
    have j5 := u64_mul T0 yn
    have j6 := u64_subw ((R * 4294967296 % 18446744073709551616 + u0) % 18446744073709551616) (T0 * yn % 18446744073709551616) (Nat.mod_lt _ (by omega)) (Nat.mod_lt _ (by omega))
    have wr0 := Nm.wrap_rest (X := R * 4294967296) (Y := T0 * yn) (u := u0) hle0 hR0
    rw [wr0] at j6
    have j7 := abin_shr (k := .u64) (R * 4294967296 + u0 - T0 * yn) (s : Int) s rfl (by omega)
    obtain ⟨w1, hw1⟩ : ∃ z, z = R * 4294967296 % 18446744073709551616 := ⟨_, rfl⟩
    obtain ⟨w3, hw3⟩ : ∃ z, z = T0 * yn % 18446744073709551616 := ⟨_, rfl⟩
    rw [← hw1] at j3 j4 j6
    rw [← hw3] at j5 j6
    obtain ⟨w2, hw2⟩ : ∃ z, z = (w1 + u0) % 18446744073709551616 := ⟨_, rfl⟩
    rw [← hw2] at j4 j6
    obtain ⟨fr, hfr⟩ : ∃ z, z = R * 4294967296 + u0 - T0 * yn := ⟨_, rfl⟩
    rw [← hfr] at j6 j7 hMv
    obtain ⟨fs, hfs⟩ : ∃ z, z = fr / 2 ^ s := ⟨_, rfl⟩
    rw [← hfs] at j7 hMv
    obtain ⟨tt, htt⟩ : ∃ z, z = T1 * 4294967296 := ⟨_, rfl⟩
    rw [← htt] at j1 j2 hQv
    rw [← hQv] at j2
    subst hMv
    refine WS_cond (t := false) (by simp; omega) (fun h => by cases h) (fun _ => WS_skip ?_)
    simp
    refine WS_seq (WS_reg [] ?_)
    simp
    refine callK lz ?_
    simp [k0]
    refine WS_seq (WS_reg [] ?_)
    simp [e1]
    refine WS_seq (WS_reg [] ?_)
    simp [e2]
    refine WS_seq (WS_reg [] ?_)
    simp [e3]
    refine WS_seq (WS_reg [] ?_)
    simp [e4, e5, e6, e7]
    refine WS_seq (WS_reg [] ?_)
    simp [e8]
    refine WS_seq (WS_reg [] ?_)
    simp [e9]
    refine WS_seq (WS_reg [] ?_)
    simp [e10]
    refine WS_seq (WS_reg [] ?_)
    simp [f1, f2, hv1z]
    refine WS_seq (WS_reg [] ?_)
    simp [f3, f4]
    refine WS_cut (fun S => S.σ 2 = .p (.i .u64 (yn : Int)) ∧ S.σ 8 = .p (.i .u64 (s : Int)) ∧ S.σ 9 = .p (.i .u64 (v1 : Int)) ∧ S.σ 10 = .p (.i .u64 (v0 : Int)) ∧ S.σ 11 = .p (.i .u64 (A : Int)) ∧ S.σ 13 = .p (.i .u64 (u1 : Int)) ∧ S.σ 14 = .p (.i .u64 (u0 : Int)) ∧ S.σ 15 = .p (.i .u64 (T1 : Int))) ?_ ?_
    · refine WS_block (WS_loop (fun S => ∃ q r : Nat, S.σ 2 = .p (.i .u64 (yn : Int)) ∧ S.σ 8 = .p (.i .u64 (s : Int)) ∧ S.σ 9 = .p (.i .u64 (v1 : Int)) ∧ S.σ 10 = .p (.i .u64 (v0 : Int)) ∧ S.σ 11 = .p (.i .u64 (A : Int)) ∧ S.σ 13 = .p (.i .u64 (u1 : Int)) ∧ S.σ 14 = .p (.i .u64 (u0 : Int)) ∧
        S.σ 15 = .p (.i .u64 (q : Int)) ∧ S.σ 16 = .p (.i .u64 (r : Int)) ∧ q * v1 + r = A ∧ T1 ≤ q ∧ q ≤ 4294967297 ∧ r < 4294967296) (fun S => match S.σ 15 with | .p (.i _ k) => k.toNat | _ => 0)
        ⟨Q1, r1, by simp, by simp, by simp, by simp, by simp, by simp, by simp, by simp, by simp, (start_facts hv1lo hv1hi dm1 hP1 hr1).1, gf1, gl1, (start_facts hv1lo hv1hi dm1 hP1 hr1).2⟩ ?_)
      rintro S ⟨q, r, h2, h8, h9, h10, h11, h13, h14, h15, h16, hqr, hge, hq, hr⟩
      refine WS_seq (WS_seq (WS_reg [] ?_))
      obtain ⟨st1, st2, st3⟩ := d64_step hT1 hv1lo hv1hi hv0D hu1D (by rw [hyy]; exact hAyn) hqr hge hq hr
      by_cases c1 : (4294967296 : Int) ≤ (q : Int)
      · have hgt := st1 (big_le q c1)
        obtain ⟨b0, b00, b1, b2, b3, b4, b5, b6⟩ := st3 hgt
        have n5 : IntKind.u64.wrap ((q : Int) - 1) = ((q - 1 : Nat) : Int) := u64_sub q 1 b0 b00
        have n6 := u64_addf r v1 b4
        obtain ⟨q', hq'⟩ : ∃ z, z = q - 1 := ⟨_, rfl⟩
        obtain ⟨r', hr'⟩ : ∃ z, z = r + v1 := ⟨_, rfl⟩
        rw [← hq'] at n5 b1 b2 b3 b5 b6
        rw [← hr'] at n6 b1 b6
        simp [h15, c1]
        refine WS_cond (t := true) (by simp) (fun _ => WS_skip ?_) (fun h => by cases h)
        simp
        refine WS_block (WS_seq (WS_reg [] ?_))
        simp [h15, n5]
        refine WS_seq (WS_reg [] ?_)
        simp [h9, h16, n6]
        refine WS_seq (WS_reg [] ?_)
        simp
        by_cases c3 : (4294967296 : Int) ≤ (r' : Int)
        · have hdone := b6 (big_le r' c3)
          refine WS_cond (t := true) (by simp [c3]) (fun _ => WS_exit ?_) (fun h => by cases h)
          simp [h2, h8, h9, h10, h11, h13, h14, hdone]
        · refine WS_cond (t := false) (by simp; exact Int.not_le.1 c3) (fun h => by cases h) (fun _ => WS_skip ?_)
          simp [h2, h8, h9, h10, h11, h13, h14]
          exact ⟨⟨q', rfl, r', rfl, b1, b2, b3, big_lt r' c3⟩, b5⟩
      · obtain ⟨m1, m2, m3, m4, m5⟩ := st2 (big_lt q c1)
        have n1 := u64_mulf q v0 m1
        have n2 : IntKind.u64.wrap (4294967296 * (r : Int)) = ((4294967296 * r : Nat) : Int) := u64_mulf 4294967296 r m2
        have n3 := u64_addf (4294967296 * r) u1 m3
        obtain ⟨X, hX⟩ : ∃ z, z = q * v0 := ⟨_, rfl⟩
        obtain ⟨Y0, hY0⟩ : ∃ z, z = 4294967296 * r := ⟨_, rfl⟩
        obtain ⟨Y, hY⟩ : ∃ z, z = Y0 + u1 := ⟨_, rfl⟩
        rw [← hX] at n1 m4 m5
        rw [← hY0] at n2 n3 m4 m5
        rw [← hY] at n3 m4 m5
        by_cases c2 : Y < X
        · have hgt := m4 c2
          obtain ⟨b0, b00, b1, b2, b3, b4, b5, b6⟩ := st3 hgt
          have n5 : IntKind.u64.wrap ((q : Int) - 1) = ((q - 1 : Nat) : Int) := u64_sub q 1 b0 b00
          have n6 := u64_addf r v1 b4
          obtain ⟨q', hq'⟩ : ∃ z, z = q - 1 := ⟨_, rfl⟩
          obtain ⟨r', hr'⟩ : ∃ z, z = r + v1 := ⟨_, rfl⟩
          rw [← hq'] at n5 b1 b2 b3 b5 b6
          rw [← hr'] at n6 b1 b6
          simp [h15, h16, h13, h10, c1, n1, n2, n3, c2]
          refine WS_cond (t := true) (by simp) (fun _ => WS_skip ?_) (fun h => by cases h)
          simp
          refine WS_block (WS_seq (WS_reg [] ?_))
          simp [h15, n5]
          refine WS_seq (WS_reg [] ?_)
          simp [h9, h16, n6]
          refine WS_seq (WS_reg [] ?_)
          simp
          by_cases c3 : (4294967296 : Int) ≤ (r' : Int)
          · have hdone := b6 (big_le r' c3)
            refine WS_cond (t := true) (by simp [c3]) (fun _ => WS_exit ?_) (fun h => by cases h)
            simp [h2, h8, h9, h10, h11, h13, h14, hdone]
          · refine WS_cond (t := false) (by simp; exact Int.not_le.1 c3) (fun h => by cases h) (fun _ => WS_skip ?_)
            simp [h2, h8, h9, h10, h11, h13, h14]
            exact ⟨⟨q', rfl, r', rfl, b1, b2, b3, big_lt r' c3⟩, b5⟩
        · have hdone := m5 (Nat.le_of_not_lt c2)
          simp [h15, h16, h13, h10, c1, n1, n2, n3, c2]
          refine WS_cond (t := false) (by simp) (fun h => by cases h) (fun _ => WS_exit ?_)
          simp [h2, h8, h9, h10, h11, h13, h14, h15, hdone]
    rintro S ⟨h2, h8, h9, h10, h11, h13, h14, h15⟩
    refine WS_seq (WS_reg [] ?_)
    simp [h2, h11, h13, h15, g1', g2, g3, g4]
    refine WS_seq (WS_reg [] ?_)
    simp [h9, i1, i2, hv1z]
    refine WS_seq (WS_reg [] ?_)
    simp [h9, i3, i4]
    refine WS_cut (fun S => S.σ 2 = .p (.i .u64 (yn : Int)) ∧ S.σ 8 = .p (.i .u64 (s : Int)) ∧ S.σ 14 = .p (.i .u64 (u0 : Int)) ∧ S.σ 15 = .p (.i .u64 (T1 : Int)) ∧ S.σ 17 = .p (.i .u64 (R : Int)) ∧ S.σ 18 = .p (.i .u64 (T0 : Int))) ?_ ?_
    · refine WS_block (WS_loop (fun S => ∃ q r : Nat, S.σ 2 = .p (.i .u64 (yn : Int)) ∧ S.σ 8 = .p (.i .u64 (s : Int)) ∧ S.σ 9 = .p (.i .u64 (v1 : Int)) ∧ S.σ 10 = .p (.i .u64 (v0 : Int)) ∧ S.σ 14 = .p (.i .u64 (u0 : Int)) ∧ S.σ 15 = .p (.i .u64 (T1 : Int)) ∧ S.σ 17 = .p (.i .u64 (R : Int)) ∧
        S.σ 18 = .p (.i .u64 (q : Int)) ∧ S.σ 16 = .p (.i .u64 (r : Int)) ∧ q * v1 + r = R ∧ T0 ≤ q ∧ q ≤ 4294967297 ∧ r < 4294967296) (fun S => match S.σ 18 with | .p (.i _ k) => k.toNat | _ => 0)
        ⟨Q0, r0, by simp [h2], by simp [h8], by simp [h9], by simp [h10], by simp [h14], by simp [h15], by simp, by simp, by simp, (start_facts hv1lo hv1hi dm2 hP0 hr0).1, gf2, gl2, (start_facts hv1lo hv1hi dm2 hP0 hr0).2⟩ ?_)
      clear h2 h8 h9 h10 h11 h13 h14 h15 S
      rintro S ⟨q, r, h2, h8, h9, h10, h14, h15, h17, h18, h16, hqr, hge, hq, hr⟩
      refine WS_seq (WS_seq (WS_reg [] ?_))
      obtain ⟨st1, st2, st3⟩ := d64_step hT0 hv1lo hv1hi hv0D hu0D hRyn hqr hge hq hr
      by_cases c1 : (4294967296 : Int) ≤ (q : Int)
      · have hgt := st1 (big_le q c1)
        obtain ⟨b0, b00, b1, b2, b3, b4, b5, b6⟩ := st3 hgt
        have n5 : IntKind.u64.wrap ((q : Int) - 1) = ((q - 1 : Nat) : Int) := u64_sub q 1 b0 b00
        have n6 := u64_addf r v1 b4
        obtain ⟨q', hq'⟩ : ∃ z, z = q - 1 := ⟨_, rfl⟩
        obtain ⟨r', hr'⟩ : ∃ z, z = r + v1 := ⟨_, rfl⟩
        rw [← hq'] at n5 b1 b2 b3 b5 b6
        rw [← hr'] at n6 b1 b6
        simp [h18, c1]
        refine WS_cond (t := true) (by simp) (fun _ => WS_skip ?_) (fun h => by cases h)
        simp
        refine WS_block (WS_seq (WS_reg [] ?_))
        simp [h18, n5]
        refine WS_seq (WS_reg [] ?_)
        simp [h9, h16, n6]
        refine WS_seq (WS_reg [] ?_)
        simp
        by_cases c3 : (4294967296 : Int) ≤ (r' : Int)
        · have hdone := b6 (big_le r' c3)
          refine WS_cond (t := true) (by simp [c3]) (fun _ => WS_exit ?_) (fun h => by cases h)
          simp [h2, h8, h9, h10, h14, h15, h17, hdone]
        · refine WS_cond (t := false) (by simp; exact Int.not_le.1 c3) (fun h => by cases h) (fun _ => WS_skip ?_)
          simp [h2, h8, h9, h10, h14, h15, h17]
          exact ⟨⟨q', rfl, r', rfl, b1, b2, b3, big_lt r' c3⟩, b5⟩
      · obtain ⟨m1, m2, m3, m4, m5⟩ := st2 (big_lt q c1)
        have n1 := u64_mulf q v0 m1
        have n2 : IntKind.u64.wrap (4294967296 * (r : Int)) = ((4294967296 * r : Nat) : Int) := u64_mulf 4294967296 r m2
        have n3 := u64_addf (4294967296 * r) u0 m3
        obtain ⟨X, hX⟩ : ∃ z, z = q * v0 := ⟨_, rfl⟩
        obtain ⟨Y0, hY0⟩ : ∃ z, z = 4294967296 * r := ⟨_, rfl⟩
        obtain ⟨Y, hY⟩ : ∃ z, z = Y0 + u0 := ⟨_, rfl⟩
        rw [← hX] at n1 m4 m5
        rw [← hY0] at n2 n3 m4 m5
        rw [← hY] at n3 m4 m5
        by_cases c2 : Y < X
        · have hgt := m4 c2
          obtain ⟨b0, b00, b1, b2, b3, b4, b5, b6⟩ := st3 hgt
          have n5 : IntKind.u64.wrap ((q : Int) - 1) = ((q - 1 : Nat) : Int) := u64_sub q 1 b0 b00
          have n6 := u64_addf r v1 b4
          obtain ⟨q', hq'⟩ : ∃ z, z = q - 1 := ⟨_, rfl⟩
          obtain ⟨r', hr'⟩ : ∃ z, z = r + v1 := ⟨_, rfl⟩
          rw [← hq'] at n5 b1 b2 b3 b5 b6
          rw [← hr'] at n6 b1 b6
          simp [h18, h16, h14, h10, c1, n1, n2, n3, c2]
          refine WS_cond (t := true) (by simp) (fun _ => WS_skip ?_) (fun h => by cases h)
          simp
          refine WS_block (WS_seq (WS_reg [] ?_))
          simp [h18, n5]
          refine WS_seq (WS_reg [] ?_)
          simp [h9, h16, n6]
          refine WS_seq (WS_reg [] ?_)
          simp
          by_cases c3 : (4294967296 : Int) ≤ (r' : Int)
          · have hdone := b6 (big_le r' c3)
            refine WS_cond (t := true) (by simp [c3]) (fun _ => WS_exit ?_) (fun h => by cases h)
            simp [h2, h8, h9, h10, h14, h15, h17, hdone]
          · refine WS_cond (t := false) (by simp; exact Int.not_le.1 c3) (fun h => by cases h) (fun _ => WS_skip ?_)
            simp [h2, h8, h9, h10, h14, h15, h17]
            exact ⟨⟨q', rfl, r', rfl, b1, b2, b3, big_lt r' c3⟩, b5⟩
        · have hdone := m5 (Nat.le_of_not_lt c2)
          simp [h18, h16, h14, h10, c1, n1, n2, n3, c2]
          refine WS_cond (t := false) (by simp) (fun h => by cases h) (fun _ => WS_exit ?_)
          simp [h2, h8, h9, h10, h14, h15, h17, h18, hdone]
    clear h2 h8 h9 h10 h11 h13 h14 h15 S
    rintro S ⟨h2, h8, h14, h15, h17, h18⟩
    refine WS_seq (WS_reg [] ?_)
    simp [h2, h8, h14, h15, h17, h18, j1, j2, j3, j4, j5, j6, j7]
    refine WS_ret ?_
    simp
end Go.Vw
