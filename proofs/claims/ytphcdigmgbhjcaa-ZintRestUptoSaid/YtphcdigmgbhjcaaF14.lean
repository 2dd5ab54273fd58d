/- Functions of nat: products of any limbs; the statement NatMultiplies. -/
import Derived.Test.YtphcdigmgbhjcaaF13
set_option linter.unusedVariables false
set_option linter.unusedSimpArgs false
namespace Go.Vw
open Go.Proofs

attribute [local simp] RunL_cons RunL_nil AOp_none AOp_some acK_v acK_call agK_tt agK_ff agK_tf agK_ft agK_tup agK_i aop aun St.ev St.heap St.put thenQ blockQ upd_apply S0 argSlot lowV V.cells V.isAgg V.fits V.part partOk plains St.ret retSV svOf svsOf retQ retP retAll retOne uL_length uL_get? uL_get St.elems retH ownIdx ownAt
attribute [local simp] RunD_none RunD_some RunD_nil RunE_any acD_v acD_call agD_tt agD_ff agD_tf agD_ft agD_tup entsOf svref SO.opds SO.writes SO.makes callEnt pureSV pureOf RV.isOwn
attribute [local simp] abin_add abin_sub abin_mul abin_quo abin_rem abin_eql abin_neq abin_lss abin_leq abin_gtr abin_geq
attribute [local simp] uL_snoc uL_set uL_take uL_drop uL_append uL_replicate uL_nil
attribute [local simp] acK_callG acD_callG St.giv gsSV gvSV retEnts ownEnts SO.still
attribute [local simp] S0G argSlotG givSV retQG retPG retAllG retOneG HObj.width V.scalar trimQ V.byte
theorem school_next {V P k xi : Nat} {R : List Nat} {i : Nat} : V + 18446744073709551616 ^ k * Nm.val 18446744073709551616 (R.take (i + 1)) = V + 18446744073709551616 ^ k * Nm.val 18446744073709551616 (R.take i) + 18446744073709551616 ^ (k + i) * R.getD i 0 := by
  rw [Nm.val_take_succ, Nat.mul_add, Nat.pow_add, Nat.add_assoc, Nat.mul_assoc]

theorem school_spec (a b : List Nat) (ha : Nm.Dl 18446744073709551616 a) (hb : Nm.Dl 18446744073709551616 b) (la : a.length ≤ 2 ^ 36) (lb : b.length ≤ 2 ^ 36) :
    Spec Try.prog f_nat_school [U a, U b] (· = [.pure (U (Nm.dig 18446744073709551616 (Nm.val 18446744073709551616 a * Nm.val 18446744073709551616 b)))]) := by
  refine spec_at Try.func130 ok_nat_school [] rfl (by simp) ?_
  unfold sc_nat_school
  obtain ⟨va, hva⟩ : ∃ v, v = Nm.val 18446744073709551616 a := ⟨_, rfl⟩
  have hvalt := Nm.val_lt ha
  rw [← hva] at hvalt ⊢
  obtain ⟨n, hn⟩ : ∃ n, n = a.length := ⟨_, rfl⟩
  obtain ⟨m, hm⟩ : ∃ m, m = b.length := ⟨_, rfl⟩
  rw [← hn] at hvalt
  have w0 := i64_addn n m (by omega)
  have w1 : IntKind.i64.wrap ((n : Int) + m + 1) = (n : Int) + m + 1 := i64_int _ (by omega) (by omega)
  have htn : ((n : Int) + m + 1).toNat = n + m + 1 := by omega
  refine WS_seq (WS_reg [] ?_)
  simp [U]
  refine WS_seq (WS_reg [] ?_)
  simp [← hn, ← hm, w0, w1, htn]
  refine ⟨by omega, ?_⟩
  refine WS_seq (WS_seq (WS_reg [] ?_))
  simp [← hm]
  refine WS_block (WS_loop (fun S => ∃ (k : Nat) (out : List Nat), k ≤ m ∧ S.σ 0 = .p (.sl none (uL a)) ∧ S.σ 18 = .p (.sl none (uL b)) ∧ S.σ 19 = .p (.i .i64 (m : Int)) ∧ S.σ 5 = .own 17 1 0 (n + m + 1) ∧ S.σ 20 = .p (.i .i64 (k : Int)) ∧
      S.h 17 = ⟨1, some (.arr 30 none (uL out))⟩ ∧ out.length = n + m + 1 ∧ Nm.Dl 18446744073709551616 out ∧ Nm.zeroFrom out (k + n) ∧ Nm.val 18446744073709551616 out = Nm.val 18446744073709551616 (b.take k) * va)
      (fun S => match S.σ 20 with | .p (.i _ k) => m - k.toNat | _ => 0) ⟨0, List.replicate (n + m + 1) 0, by omega, by simp, by simp, by simp, by simp, by simp, by simp, by simp, Nm.Dl.replicate (by omega) _, fun j _ => by simp [List.getD, List.getElem?_replicate]; split <;> simp, by simp [Nm.val_replicate, Nm.val]⟩ ?_)
  rintro S ⟨k, out, hk, h0, h18, h19, h5, h20, hh, ho1, ho2, ho3, ho4⟩
  refine WS_seq (WS_reg [] ?_)
  simp [h19, h20]
  by_cases hlt : k < m
  · refine WS_seq (WS_cond (t := true) (by simp; omega) (fun _ => ?_) (fun h => by cases h))
    refine WS_skip ?_
    simp
    have hkb : k < b.length := by omega
    have hxi := hb _ (List.getElem_mem hkb)
    have hts := Nm.val_take_succ 18446744073709551616 b k
    have hbg : b.getD k 0 = b[k] := by simp [List.getD, hkb]
    rw [hbg] at hts
    obtain ⟨xi, hxid⟩ : ∃ xi, xi = b[k] := ⟨_, rfl⟩
    rw [← hxid] at hxi hts
    have hrow := row_spec a ha xi hxi (by omega)
    have hRl := Nm.pad_length 18446744073709551616 (a.length + 1) (Nm.val 18446744073709551616 a * xi)
    have hRd := Nm.pad_lt (B := 18446744073709551616) (by omega) (a.length + 1) (Nm.val 18446744073709551616 a * xi)
    have hRv := Nm.val_pad 18446744073709551616 (a.length + 1) (Nm.val 18446744073709551616 a * xi)
    rw [← hva, ← hn] at hrow hRl hRd hRv
    have hfit : va * xi < 18446744073709551616 ^ (n + 1) := by
      rw [Nat.pow_succ]
      exact Nat.mul_lt_mul'' hvalt hxi
    rw [Nat.mod_eq_of_lt hfit] at hRv
    obtain ⟨R, hR⟩ : ∃ R, R = Nm.pad 18446744073709551616 (n + 1) (va * xi) := ⟨_, rfl⟩
    rw [← hR] at hrow hRl hRd hRv
    obtain ⟨V0, hV0⟩ : ∃ V0, V0 = Nm.val 18446744073709551616 (b.take k) * va := ⟨_, rfl⟩
    rw [← hV0] at ho4
    have hall : V0 + 18446744073709551616 ^ k * (va * xi) = Nm.val 18446744073709551616 (b.take (k + 1)) * va := by
      rw [hts, Nat.add_mul, hV0, Nat.mul_assoc, Nat.mul_comm va xi]
    have hbk : Nm.val 18446744073709551616 (b.take (k + 1)) < 18446744073709551616 ^ (k + 1) := by
      have := Nm.val_lt (hb.take (k + 1))
      have hl : (b.take (k + 1)).length = k + 1 := by simp; omega
      rwa [hl] at this
    have hbound : Nm.val 18446744073709551616 (b.take (k + 1)) * va < 18446744073709551616 ^ (k + (n + 1)) := by
      rw [show k + (n + 1) = (k + 1) + n by omega, Nat.pow_add]
      exact Nat.mul_lt_mul'' hbk hvalt
    refine WS_seq (WS_block (WS_seq (WS_reg [] ?_)))
    simp [h18, h20, hkb, ← hxid]
    refine WS_seq (WS_reg [] ?_)
    simp
    refine WS_seq (WS_reg [] ?_)
    simp [h0]
    refine callK hrow ?_
    simp [U, hRl]
    refine WS_block (WS_loop (fun S => ∃ (i c : Nat) (out : List Nat), i ≤ n + 1 ∧ S.σ 0 = .p (.sl none (uL a)) ∧ S.σ 18 = .p (.sl none (uL b)) ∧ S.σ 19 = .p (.i .i64 (m : Int)) ∧ S.σ 5 = .own 17 1 0 (n + m + 1) ∧ S.σ 20 = .p (.i .i64 (k : Int)) ∧
      S.σ 6 = .p (.i .i64 (k : Int)) ∧ S.σ 8 = .p (.i .u64 (c : Int)) ∧ S.σ 27 = .p (.sl none (uL R)) ∧ S.σ 28 = .p (.i .i64 ((n : Int) + 1)) ∧ S.σ 29 = .p (.i .i64 (i : Int)) ∧
      S.h 17 = ⟨1, some (.arr 30 none (uL out))⟩ ∧ out.length = n + m + 1 ∧ Nm.Dl 18446744073709551616 out ∧ Nm.zeroFrom out (k + n + 1) ∧ c ≤ 1 ∧
      Nm.val 18446744073709551616 out + 18446744073709551616 ^ (k + i) * c = V0 + 18446744073709551616 ^ k * Nm.val 18446744073709551616 (R.take i))
      (fun S => match S.σ 29 with | .p (.i _ k) => n + 1 - k.toNat | _ => 0) ⟨0, 0, out, by omega, by simp [h0], by simp [h18], by simp [h19], by simp [h5], by simp [h20], by simp, by simp, by simp, by simp, by simp, by simp [hh], ho1, ho2, fun j hj => ho3 j (by omega), by omega, by simp [ho4, Nm.val]⟩ ?_)
    rintro S ⟨i, c, out, hi, h0, h18, h19, h5, h20, h6, h8, h27, h28, h29, hh, ho1, ho2, ho3, hc, ho4⟩
    refine WS_seq (WS_reg [] ?_)
    simp [h28, h29]
    by_cases hlt2 : i < n + 1
    · refine WS_seq (WS_cond (t := true) (by simp; omega) (fun _ => ?_) (fun h => by cases h))
      refine WS_skip ?_
      simp
      have hiR : i < R.length := by omega
      have hrg := hRd _ (List.getElem_mem hiR)
      have hnext := school_next (V := V0) (P := 0) (k := k) (xi := 0) (R := R) (i := i)
      have hRg : R.getD i 0 = R[i] := by simp [List.getD, hiR]
      rw [hRg] at hnext
      obtain ⟨r, hrd⟩ : ∃ r, r = R[i] := ⟨_, rfl⟩
      rw [← hrd] at hrg hnext
      have hol : k + i < out.length := by omega
      have hog := ho2.get (by omega) (k + i)
      have hstep := Nm.mul_step (B := 18446744073709551616) (z := r) hol ho4
      rw [← hnext] at hstep
      obtain ⟨o, hod⟩ : ∃ o, o = out.getD (k + i) 0 := ⟨_, rfl⟩
      rw [← hod] at hog hstep
      have hog' : out[k + i] = o := by rw [hod]; simp [List.getD, hol]
      have ad := add64_spec o r c hc
      rw [Nat.add_comm o r] at ad
      have b5 : (r + o + c) / 18446744073709551616 ≤ 1 := by omega
      have b4 : (r + o + c) % 18446744073709551616 < 18446744073709551616 := Nat.mod_lt _ (by omega)
      obtain ⟨tl, htl⟩ : ∃ z, z = (r + o + c) % 18446744073709551616 := ⟨_, rfl⟩
      obtain ⟨th, hth⟩ : ∃ z, z = (r + o + c) / 18446744073709551616 := ⟨_, rfl⟩
      rw [← htl, ← hth] at ad hstep
      rw [← htl] at b4
      rw [← hth] at b5
      have q1 := i64_addn k i (by omega)
      have q2 := i64_succ i (by omega)
      have hki : ((k : Int) + i).toNat = k + i := by omega
      have hki' : (k : Int) + i < n + m + 1 := by omega
      have hki0 : (0 : Int) ≤ (k : Int) + i := by omega
      refine WS_seq (WS_block (WS_seq (WS_reg [] ?_)))
      simp [h27, h29, hiR, ← hrd]
      refine WS_reg [] ?_
      simp [h5, h6, h8, hh, q1, hki, hki', hki0, hol, hog']
      refine callK ad ?_
      simp [hh, hki, hki', hki0, hol]
      refine WS_reg [] ?_
      simp [h0, h5, h6, h18, h19, h20, h27, h28, h29, q2]
      refine ⟨⟨i + 1, by omega, th, rfl, rfl, out.set (k + i) tl, rfl, by simp [ho1], ho2.set b4 _, Nm.zeroFrom_set ho3 (by omega) _, b5, hstep⟩, by omega⟩
    · have hi' : i = n + 1 := by omega
      refine WS_seq (WS_cond (t := false) (by simp; omega) (fun h => by cases h) (fun _ => ?_))
      refine WS_exit ?_
      simp
      rw [hi', Nm.take_all (by omega), hRv, hall] at ho4
      have hc0 : c = 0 := by
        rcases Nat.le_one_iff_eq_zero_or_eq_one.1 hc with h | h
        · exact h
        · rw [h, Nat.mul_one] at ho4; omega
      rw [hc0, Nat.mul_zero, Nat.add_zero] at ho4
      have q2 := i64_succ k (by omega)
      refine WS_reg [] ?_
      simp [h0, h5, h18, h19, h20, hh, q2]
      refine ⟨⟨k + 1, by omega, rfl, out, rfl, ho1, ho2, fun j hj => ho3 j (by omega), ho4⟩, by omega⟩
  · have hk' : k = m := by omega
    refine WS_seq (WS_cond (t := false) (by simp; omega) (fun h => by cases h) (fun _ => ?_))
    refine WS_exit ?_
    simp
    refine WS_frz 17 5 none ?_
    simp [frzQ, h5, hh, ho1, take_all' ho1]
    refine WS_seq (WS_reg [] ?_)
    simp
    refine callK (plain_spec out (by omega)) ?_
    simp
    refine WS_ret ?_
    rw [hk', Nm.take_all (by omega)] at ho4
    rw [← Nm.dig_val (by omega) ho2, ho4, Nat.mul_comm]
    simp [U]

theorem nless_spec (a b : List Nat) (ha : Nm.Dl 18446744073709551616 a) (hb : Nm.Dl 18446744073709551616 b) (la : a.length ≤ 2 ^ 40) (lb : b.length ≤ 2 ^ 40) (hle : Nm.val 18446744073709551616 b ≤ Nm.val 18446744073709551616 a) :
    Spec Try.prog f_nat_less [U a, U b] (· = [.pure (U (Nm.dig 18446744073709551616 (Nm.val 18446744073709551616 a - Nm.val 18446744073709551616 b)))]) := by
  refine spec_at Try.func131 ok_nat_less [] rfl (by simp) ?_
  unfold sc_nat_less
  have s := sub_spec a b ha hb la lb
  rw [if_pos hle] at s
  refine WS_seq (WS_reg [] ?_)
  simp
  refine WS_seq (WS_reg [] ?_)
  simp
  refine callK s ?_
  simp
  refine WS_seq (WS_reg [] ?_)
  simp
  refine WS_ret ?_
  simp
end Go.Vw
