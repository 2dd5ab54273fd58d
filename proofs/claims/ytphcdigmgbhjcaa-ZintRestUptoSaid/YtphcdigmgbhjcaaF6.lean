/- Functions of cleaverref01: which is greater, sums, differences. -/
import Derived.Test.YtphcdigmgbhjcaaF3
import Derived.Test.YtphcdigmgbhjcaaF4
set_option linter.unusedVariables false
set_option linter.unusedSimpArgs false
namespace Go.Vw
open Go.Proofs

attribute [local simp] RunL_cons RunL_nil AOp_none AOp_some acK_v acK_call agK_tt agK_ff agK_tf agK_ft agK_tup agK_i aop aun St.ev St.heap St.put thenQ blockQ upd_apply S0 argSlot lowV V.cells V.isAgg V.fits V.part partOk plains St.ret retSV svOf svsOf retQ retP retAll retOne uL_length uL_get? uL_get St.elems retH ownIdx ownAt
attribute [local simp] RunD_none RunD_some RunD_nil RunE_any acD_v acD_call agD_tt agD_ff agD_tf agD_ft agD_tup entsOf svref SO.opds SO.writes SO.makes callEnt pureSV pureOf RV.isOwn
attribute [local simp] abin_add abin_sub abin_mul abin_quo abin_rem abin_eql abin_neq abin_lss abin_leq abin_gtr abin_geq
attribute [local simp] uL_snoc uL_set uL_take uL_drop uL_append uL_replicate uL_nil
attribute [local simp] acK_callG acD_callG St.giv gsSV gvSV retEnts ownEnts SO.still
attribute [local simp] S0G argSlotG givSV retQG retPG retAllG retOneG HObj.width V.scalar trimQ V.byte
theorem rcompare_spec (x y : List Nat) (hx : Nm.Dl 4294967296 x) (hy : Nm.Dl 4294967296 y) (lx : x.length ≤ 2 ^ 42) (ly : y.length ≤ 2 ^ 42) :
    Spec Try.prog f_ref01_compare [U x, U y] (· = [.pure (.i .i64 (Nm.cmpN (Nm.val 4294967296 x) (Nm.val 4294967296 y)))]) := by
  refine spec_at Try.func136 ok_ref01_compare [] rfl (by simp) ?_
  unfold sc_ref01_compare U
  have hc := Nm.cmpF_val (B := 4294967296) (by omega) hx hy (max x.length y.length)
  rw [Nm.take_all (by omega), Nm.take_all (by omega)] at hc
  rw [← hc]
  obtain ⟨n, hn⟩ : ∃ n, n = max x.length y.length := ⟨_, rfl⟩
  rw [← hn]
  refine WS_seq (WS_reg [] ?_)
  simp
  refine WS_seq (WS_seq (WS_reg [] ?_))
  have w0 : IntKind.i64.wrap ((n : Int) - 1) = (n : Int) - 1 := i64_int _ (by omega) (by omega)
  simp [max_len, ← hn, w0]
  refine WS_block (WS_loop (fun S => ∃ k : Nat, k ≤ n ∧ S.σ 0 = .p (.sl none (uL x)) ∧ S.σ 1 = .p (.sl none (uL y)) ∧ S.σ 5 = .p (.i .i64 ((k : Int) - 1)) ∧ Nm.cmpF x y n = Nm.cmpF x y k) (fun S => match S.σ 5 with | .p (.i _ n) => (n + 1).toNat | _ => 0) ⟨n, by omega, by simp, by simp, by simp, rfl⟩ ?_)
  rintro S ⟨k, hk, h0, h1, h5, hcm⟩
  refine WS_seq (WS_seq (WS_reg [] ?_))
  simp [h5]
  by_cases hp : 0 < k
  · obtain ⟨j, rfl⟩ : ∃ j, k = j + 1 := ⟨k - 1, by omega⟩
    have hj : ((j + 1 : Nat) : Int) - 1 = (j : Int) := by omega
    rw [hj] at h5
    refine WS_cond (t := true) (by simp; omega) (fun _ => ?_) (fun h => by cases h)
    refine WS_skip ?_
    simp
    refine WS_seq (WS_block (WS_seq (WS_seq (WS_reg [] ?_))))
    simp [h0, h5]
    refine callK (rat_spec x j (by omega)) ?_
    simp [h1, h5]
    refine callK (rat_spec y j (by omega)) ?_
    obtain ⟨p, hpd⟩ : ∃ p, p = x[j]?.getD 0 := ⟨_, rfl⟩
    obtain ⟨q, hqd⟩ : ∃ q, q = y[j]?.getD 0 := ⟨_, rfl⟩
    have hF : Nm.cmpF x y (j + 1) = if p < q then -1 else if p > q then 1 else Nm.cmpF x y j := by simp [Nm.cmpF, hpd, hqd]
    simp [← hpd, ← hqd]
    by_cases hlt : p < q
    · refine WS_cond (t := true) (by simp [hlt]) (fun _ => ?_) (fun h => by cases h)
      refine WS_seq (WS_reg [] ?_)
      simp
      refine WS_ret ?_
      simp
      rw [hcm, hF, if_pos hlt]
    · refine WS_cond (t := false) (by simp; omega) (fun h => by cases h) (fun _ => ?_)
      refine WS_skip ?_
      simp
      refine WS_seq (WS_reg [] ?_)
      simp [h0, h5]
      refine callK (rat_spec x j (by omega)) ?_
      simp [h1, h5]
      refine callK (rat_spec y j (by omega)) ?_
      simp [← hpd, ← hqd]
      by_cases hgt : q < p
      · refine WS_cond (t := true) (by simp [hgt]) (fun _ => ?_) (fun h => by cases h)
        refine WS_seq (WS_reg [] ?_)
        simp
        refine WS_ret ?_
        simp
        rw [hcm, hF, if_neg hlt, if_pos hgt]
      · refine WS_cond (t := false) (by simp; omega) (fun h => by cases h) (fun _ => ?_)
        refine WS_skip ?_
        simp
        have w1 : IntKind.i64.wrap ((j : Int) - 1) = (j : Int) - 1 := i64_int _ (by omega) (by omega)
        refine WS_reg [] ?_
        simp [h0, h1, h5, w1]
        refine ⟨j, by omega, rfl, ?_⟩
        rw [hcm, hF, if_neg hlt, if_neg (by omega)]
  · have hk0 : k = 0 := by omega
    subst hk0
    refine WS_cond (t := false) (by simp) (fun h => by cases h) (fun _ => ?_)
    refine WS_exit ?_
    simp
    refine WS_seq (WS_reg [] ?_)
    simp
    refine WS_ret ?_
    simp [hcm, Nm.cmpF]
end Go.Vw
