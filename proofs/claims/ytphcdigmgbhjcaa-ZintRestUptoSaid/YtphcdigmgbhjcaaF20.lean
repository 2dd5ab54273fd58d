/- nat.short: quotient and rest by one limb. -/
import Derived.Test.YtphcdigmgbhjcaaF19
set_option linter.unusedVariables false
set_option linter.unusedSimpArgs false
namespace Go.Vw
open Go.Proofs

attribute [local simp] RunL_cons RunL_nil AOp_none AOp_some acK_v acK_call agK_tt agK_ff agK_tf agK_ft agK_tup agK_i aop aun St.ev St.heap St.put thenQ blockQ upd_apply S0 argSlot lowV V.cells V.isAgg V.fits V.part partOk plains St.ret retSV svOf svsOf retQ retP retAll retOne uL_length uL_get? uL_get St.elems retH ownIdx ownAt
attribute [local simp] RunD_none RunD_some RunD_nil RunE_any acD_v acD_call agD_tt agD_ff agD_tf agD_ft agD_tup entsOf svref SO.opds SO.writes SO.makes callEnt pureSV pureOf RV.isOwn
attribute [local simp] abin_add abin_sub abin_mul abin_quo abin_rem abin_eql abin_neq abin_lss abin_leq abin_gtr abin_geq
attribute [local simp] uL_snoc uL_set uL_take uL_drop uL_append uL_replicate uL_nil
attribute [local simp] acK_callG acD_callG St.giv gsSV gvSV retEnts ownEnts SO.still
attribute [local simp] S0G argSlotG givSV retQG retPG retAllG retOneG HObj.width V.scalar trimQ V.byte
theorem short_step {H x ai r : Nat} (hx : 0 < x) (hr : r = H % x) : (ai + 18446744073709551616 * H) / x = 18446744073709551616 * (H / x) + (r * 18446744073709551616 + ai) / x ∧ (ai + 18446744073709551616 * H) % x = (r * 18446744073709551616 + ai) % x := by
  have h := Nat.div_add_mod H x
  rw [← hr] at h
  have e : ai + 18446744073709551616 * H = (r * 18446744073709551616 + ai) + x * (18446744073709551616 * (H / x)) := by
    have h2 : 18446744073709551616 * H = 18446744073709551616 * (x * (H / x)) + 18446744073709551616 * r := by rw [← Nat.mul_add, h]
    rw [h2, Nat.mul_left_comm x]; omega
  rw [e, Nat.add_mul_div_left _ _ hx, Nat.add_mul_mod_self_left]
  exact ⟨Nat.add_comm _ _, rfl⟩

theorem short_fit {r ai x : Nat} (hr : r < x) (ha : ai < 18446744073709551616) : (r * 18446744073709551616 + ai) / x < 18446744073709551616 := by
  refine Nat.div_lt_of_lt_mul ?_
  have : (r + 1) * 18446744073709551616 ≤ x * 18446744073709551616 := Nat.mul_le_mul_right _ hr
  omega

theorem short_spec (a : List Nat) (ha : Nm.Dl 18446744073709551616 a) (x : Nat) (hx : 0 < x) (hx64 : x < 18446744073709551616) (hl : a.length ≤ 2 ^ 40) :
    Spec Try.prog f_nat_short [U a, .i .u64 (x : Int)] (· = [.pure (U (Nm.dig 18446744073709551616 (Nm.val 18446744073709551616 a / x))), .pure (.i .u64 ((Nm.val 18446744073709551616 a % x : Nat) : Int))]) := by
  refine spec_at Try.func146 ok_nat_short [] rfl (by simp) ?_
  unfold sc_nat_short
  obtain ⟨Qv, hQv⟩ : ∃ z, z = Nm.val 18446744073709551616 a / x := ⟨_, rfl⟩
  obtain ⟨Mv, hMv⟩ : ∃ z, z = Nm.val 18446744073709551616 a % x := ⟨_, rfl⟩
  rw [← hQv, ← hMv]
  obtain ⟨n, hn⟩ : ∃ n, n = a.length := ⟨_, rfl⟩
  have w0 : IntKind.i64.wrap ((n : Int) - 1) = (n : Int) - 1 := i64_int _ (by omega) (by omega)
  refine WS_seq (WS_reg [] ?_)
  simp [U]
  refine WS_seq (WS_reg [] ?_)
  simp [← hn]
  refine ⟨by omega, ?_⟩
  refine WS_seq (WS_seq (WS_reg [] ?_))
  simp [← hn, w0]
  refine WS_block (WS_loop (fun S => ∃ (j r : Nat) (out : List Nat), j ≤ n ∧ S.σ 0 = .p (.sl none (uL a)) ∧ S.σ 1 = .p (.i .u64 (x : Int)) ∧ S.σ 6 = .own 11 1 0 n ∧ S.σ 7 = .p (.i .u64 (r : Int)) ∧ S.σ 8 = .p (.i .i64 ((j : Int) - 1)) ∧
      S.h 11 = ⟨1, some (.arr 30 none (uL out))⟩ ∧ out.length = n ∧ Nm.Dl 18446744073709551616 out ∧ (∀ p, p < j → out.getD p 0 = 0) ∧ r = Nm.val 18446744073709551616 (a.drop j) % x ∧ Nm.val 18446744073709551616 out = 18446744073709551616 ^ j * (Nm.val 18446744073709551616 (a.drop j) / x))
      (fun S => match S.σ 8 with | .p (.i _ k) => (k + 1).toNat | _ => 0) ⟨n, 0, List.replicate n 0, by omega, by simp, by simp, by simp, by simp, by simp, by simp, by simp, Nm.Dl.replicate (by omega) _, fun p _ => by simp [List.getD, List.getElem?_replicate]; split <;> simp, by simp [hn, Nm.val], by simp [hn, Nm.val, Nm.val_replicate]⟩ ?_)
  rintro S ⟨j, r, out, hj, h0, h1, h6, h7, h8, hh, ho1, ho2, ho3, hr, ho4⟩
  refine WS_seq (WS_seq (WS_reg [] ?_))
  simp [h8]
  by_cases hp : 0 < j
  · obtain ⟨i, rfl⟩ : ∃ i, j = i + 1 := ⟨j - 1, by omega⟩
    have hi1 : ((i + 1 : Nat) : Int) - 1 = (i : Int) := by omega
    rw [hi1] at h8
    have hia : i < a.length := by omega
    have hai := ha _ (List.getElem_mem hia)
    have hdrop := Nm.val_drop 18446744073709551616 a i
    have hag : a.getD i 0 = a[i] := by simp [List.getD, hia]
    rw [hag] at hdrop
    obtain ⟨ai, haid⟩ : ∃ z, z = a[i] := ⟨_, rfl⟩
    rw [← haid] at hai hdrop
    have hrx : r < x := by rw [hr]; exact Nat.mod_lt _ hx
    obtain ⟨s1, s2⟩ := short_step (ai := ai) hx hr
    rw [← hdrop] at s1 s2
    have fit := short_fit hrx hai
    have dv := div64_spec r ai x (by omega) hrx hx64 hai
    obtain ⟨q, hq⟩ : ∃ z, z = (r * 18446744073709551616 + ai) / x := ⟨_, rfl⟩
    obtain ⟨r', hr'⟩ : ∃ z, z = (r * 18446744073709551616 + ai) % x := ⟨_, rfl⟩
    rw [← hq, ← hr'] at dv
    rw [← hq] at s1 fit
    rw [← hr'] at s2
    have hol : i < out.length := by omega
    have hset := Nm.set_zero (B := 18446744073709551616) (c := q) hol (ho3 i (by omega))
    have hval : Nm.val 18446744073709551616 (out.set i q) = 18446744073709551616 ^ i * (Nm.val 18446744073709551616 (a.drop i) / x) := by
      rw [hset, ho4, s1, Nat.mul_add, Nat.pow_succ, Nat.mul_assoc]
    have hin : i < n := by omega
    have w1 : IntKind.i64.wrap ((i : Int) - 1) = (i : Int) - 1 := i64_int _ (by omega) (by omega)
    refine WS_cond (t := true) (by simp; omega) (fun _ => ?_) (fun h => by cases h)
    refine WS_skip ?_
    simp
    refine WS_seq (WS_block (WS_reg [] ?_))
    simp [h0, h1, h6, h7, h8, hh, hia, hin, ← haid]
    refine callK dv ?_
    simp [hh, hin, hol]
    refine WS_reg [] ?_
    simp [h0, h1, h6, h8, w1]
    refine ⟨i, by omega, r', rfl, rfl, out.set i q, rfl, by simp [ho1], ho2.set fit _, fun p hp => ?_, s2.symm, hval⟩
    have hz := ho3 p (by omega)
    have := Nm.getD_set_ne (l := out) (show i ≠ p by omega) q
    rw [hz] at this
    simpa [List.getD] using this
  · have hj0 : j = 0 := by omega
    subst hj0
    refine WS_cond (t := false) (by simp) (fun h => by cases h) (fun _ => ?_)
    refine WS_exit ?_
    simp
    simp only [List.drop_zero, Nat.pow_zero, Nat.one_mul] at hr ho4
    rw [← hMv] at hr
    rw [← hQv] at ho4
    refine WS_frz 11 6 none ?_
    simp [frzQ, h6, hh, ho1, take_all' ho1]
    refine WS_seq (WS_reg [] ?_)
    simp
    refine callK (plain_spec out (by omega)) ?_
    simp [h7]
    refine WS_ret ?_
    rw [← Nm.dig_val (by omega) ho2, ho4, hr]
    simp [U]
end Go.Vw
