/- Primes. -/
import Derived.Test.YtelkndcchjhgcaaGreatMF
import Derived.Test.YtelkndcchjhgcaaGreatS4
import Derived.Test.YtelkndcchjhgcaaGreatME
import Derived.Test.YtelkndcchjhgcaaGreatS5
set_option linter.unusedVariables false
set_option linter.unusedSimpArgs false
namespace Go.Vw
open Go.Proofs

attribute [local simp] RunL_cons RunL_nil AOp_none AOp_some acK_v acK_call agK_tt agK_ff agK_tf agK_ft agK_tup agK_i aop aun St.ev St.heap St.put thenQ blockQ scopeQ upd_apply S0 argSlot lowV V.cells V.isAgg V.fits V.part partOk plains St.ret retSV svOf svsOf retQ retP retAll retOne uL_length uL_get? uL_get St.elems retH ownIdx ownAt
attribute [local simp] RunD_none RunD_some RunD_nil RunE_any acD_v acD_call agD_tt agD_ff agD_tf agD_ft agD_tup entsOf svref SO.opds SO.writes SO.makes callEnt pureSV pureOf RV.isOwn
attribute [local simp] abin_add abin_sub abin_mul abin_quo abin_rem abin_eql abin_neq abin_lss abin_leq abin_gtr abin_geq
attribute [local simp] uL_snoc uL_set uL_take uL_drop uL_append uL_replicate uL_nil
attribute [local simp] acK_callG acD_callG St.giv gsSV gvSV retEnts ownEnts SO.still
attribute [local simp] S0G argSlotG givSV retQG retPG retAllG retOneG HObj.width V.scalar trimQ V.byte
attribute [local simp] zv V.fits fillOk fillV Z_eq
end Go.Vw
set_option linter.unusedVariables false
set_option linter.unusedSimpArgs false
namespace Go.Vw
open Go.Proofs

attribute [local simp] RunL_cons RunL_nil AOp_none AOp_some acK_v acK_call agK_tt agK_ff agK_tf agK_ft agK_tup agK_i aop aun St.ev St.heap St.put thenQ blockQ scopeQ upd_apply S0 argSlot lowV V.cells V.isAgg V.fits V.part partOk plains St.ret retSV svOf svsOf retQ retP retAll retOne uL_length uL_get? uL_get St.elems retH ownIdx ownAt
attribute [local simp] RunD_none RunD_some RunD_nil RunE_any acD_v acD_call agD_tt agD_ff agD_tf agD_ft agD_tup entsOf svref SO.opds SO.writes SO.makes callEnt pureSV pureOf RV.isOwn
attribute [local simp] abin_add abin_sub abin_mul abin_quo abin_rem abin_eql abin_neq abin_lss abin_leq abin_gtr abin_geq
attribute [local simp] uL_snoc uL_set uL_take uL_drop uL_append uL_replicate uL_nil
attribute [local simp] acK_callG acD_callG St.giv gsSV gvSV retEnts ownEnts SO.still
attribute [local simp] S0G argSlotG givSV retQG retPG retAllG retOneG HObj.width V.scalar trimQ V.byte
attribute [local simp] zv V.fits fillOk fillV Z_eq
end Go.Vw
set_option linter.unusedVariables false
set_option linter.unusedSimpArgs false
namespace Go.Vw
open Go.Proofs

def restR (a m : Int) : List RV := if m ≤ 0 then [.pure (Z 0), .pure (.i .i64 1)] else [.pure (Z (a % m)), .pure (.i .i64 0)]
attribute [local simp] RunL_cons RunL_nil AOp_none AOp_some acK_v acK_call agK_tt agK_ff agK_tf agK_ft agK_tup agK_i aop aun St.ev St.heap St.put thenQ blockQ scopeQ upd_apply S0 argSlot lowV V.cells V.isAgg V.fits V.part partOk plains St.ret retSV svOf svsOf retQ retP retAll retOne uL_length uL_get? uL_get St.elems retH ownIdx ownAt
attribute [local simp] RunD_none RunD_some RunD_nil RunE_any acD_v acD_call agD_tt agD_ff agD_tf agD_ft agD_tup entsOf svref SO.opds SO.writes SO.makes callEnt pureSV pureOf RV.isOwn
attribute [local simp] abin_add abin_sub abin_mul abin_quo abin_rem abin_eql abin_neq abin_lss abin_leq abin_gtr abin_geq
attribute [local simp] uL_snoc uL_set uL_take uL_drop uL_append uL_replicate uL_nil
attribute [local simp] acK_callG acD_callG St.giv gsSV gvSV retEnts ownEnts SO.still
attribute [local simp] S0G argSlotG givSV retQG retPG retAllG retOneG HObj.width V.scalar trimQ V.byte
attribute [local simp] zv V.fits fillOk fillV Z_eq
theorem prest {k : Nat} {v w : V} {x y : Int} (hv : IsZ k v x) (hw : IsZ k w y) (hk : k ≤ 2 ^ 35) : Spec Tryz.prog f_prime_Rest [v, w] (· = restR x y) := by
  have sg := zsign hw (by omega)
  have dv := fun h => zdiv hv hw hk h
  obtain ⟨n1, l1, rfl, h1, hx⟩ := hv
  obtain ⟨n2, l2, rfl, h2, hy⟩ := hw
  refine spec_at Tryz.func95 ok_prime_Rest [] rfl (by simp) ?_
  unfold sc_prime_Rest
  by_cases h0 : y ≤ 0
  · have hs : y.sign ≤ 0 := by rw [Int.sign_nonpos_iff]; exact h0
    rw [restR, if_pos h0]
    refine WS_seq (WS_reg [] ?_); simp [hs, Z_zero]
    refine WS_seq (WS_seq (WS_reg [] ?_)); simp [hs, Z_zero]
    refine callK sg ?_; simp [hs, Z_zero]
    refine WS_cond (t := true) (by simp [hs, Z_zero]) (fun _ => ?_) (fun h => by cases h)
    refine WS_seq (WS_reg [] ?_); simp [hs, Z_zero]
    refine WS_ret ?_; simp [hs, Z_zero]
  · have hs : ¬ y.sign ≤ 0 := by rw [Int.sign_nonpos_iff]; exact h0
    have dv := dv (by omega)
    rw [restR, if_neg h0]
    refine WS_seq (WS_reg [] ?_); simp [hs]
    refine WS_seq (WS_seq (WS_reg [] ?_)); simp [hs]
    refine callK sg ?_; simp [hs]
    refine WS_cond (t := false) (by simp [hs]) (fun h => by cases h) (fun _ => ?_)
    refine WS_skip ?_; simp [hs]
    refine WS_seq (WS_reg [] ?_); simp [hs]
    refine callK dv ?_; simp [hs]
    refine WS_seq (WS_reg [] ?_); simp [hs]
    refine WS_ret ?_; simp [hs]

end Go.Vw
set_option linter.unusedVariables false
set_option linter.unusedSimpArgs false
namespace Go.Vw
open Go.Proofs

end Go.Vw
set_option linter.unusedVariables false
set_option linter.unusedSimpArgs false
namespace Go.Vw
open Go.Proofs

attribute [local simp] RunL_cons RunL_nil AOp_none AOp_some acK_v acK_call agK_tt agK_ff agK_tf agK_ft agK_tup agK_i aop aun St.ev St.heap St.put thenQ blockQ scopeQ upd_apply S0 argSlot lowV V.cells V.isAgg V.fits V.part partOk plains St.ret retSV svOf svsOf retQ retP retAll retOne uL_length uL_get? uL_get St.elems retH ownIdx ownAt
attribute [local simp] RunD_none RunD_some RunD_nil RunE_any acD_v acD_call agD_tt agD_ff agD_tf agD_ft agD_tup entsOf svref SO.opds SO.writes SO.makes callEnt pureSV pureOf RV.isOwn
attribute [local simp] abin_add abin_sub abin_mul abin_quo abin_rem abin_eql abin_neq abin_lss abin_leq abin_gtr abin_geq
attribute [local simp] uL_snoc uL_set uL_take uL_drop uL_append uL_replicate uL_nil
attribute [local simp] acK_callG acD_callG St.giv gsSV gvSV retEnts ownEnts SO.still
attribute [local simp] S0G argSlotG givSV retQG retPG retAllG retOneG HObj.width V.scalar trimQ V.byte
attribute [local simp] zv V.fits fillOk fillV Z_eq rv Q_eq
end Go.Vw
set_option linter.unusedVariables false
set_option linter.unusedSimpArgs false
namespace Go.Vw
open Go.Proofs

attribute [local simp] RunL_cons RunL_nil AOp_none AOp_some acK_v acK_call agK_tt agK_ff agK_tf agK_ft agK_tup agK_i aop aun St.ev St.heap St.put thenQ blockQ scopeQ upd_apply S0 argSlot lowV V.cells V.isAgg V.fits V.part partOk plains St.ret retSV svOf svsOf retQ retP retAll retOne uL_length uL_get? uL_get St.elems retH ownIdx ownAt
attribute [local simp] RunD_none RunD_some RunD_nil RunE_any acD_v acD_call agD_tt agD_ff agD_tf agD_ft agD_tup entsOf svref SO.opds SO.writes SO.makes callEnt pureSV pureOf RV.isOwn
attribute [local simp] abin_add abin_sub abin_mul abin_quo abin_rem abin_eql abin_neq abin_lss abin_leq abin_gtr abin_geq
attribute [local simp] uL_snoc uL_set uL_take uL_drop uL_append uL_replicate uL_nil
attribute [local simp] acK_callG acD_callG St.giv gsSV gvSV retEnts ownEnts SO.still
attribute [local simp] S0G argSlotG givSV retQG retPG retAllG retOneG HObj.width V.scalar trimQ V.byte
attribute [local simp] zv V.fits fillOk fillV Z_eq rv Q_eq
end Go.Vw
set_option linter.unusedVariables false
set_option linter.unusedSimpArgs false
namespace Go.Vw
open Go.Proofs

attribute [local simp] RunL_cons RunL_nil AOp_none AOp_some acK_v acK_call agK_tt agK_ff agK_tf agK_ft agK_tup agK_i aop aun St.ev St.heap St.put thenQ blockQ scopeQ upd_apply S0 argSlot lowV V.cells V.isAgg V.fits V.part partOk plains St.ret retSV svOf svsOf retQ retP retAll retOne uL_length uL_get? uL_get St.elems retH ownIdx ownAt
attribute [local simp] RunD_none RunD_some RunD_nil RunE_any acD_v acD_call agD_tt agD_ff agD_tf agD_ft agD_tup entsOf svref SO.opds SO.writes SO.makes callEnt pureSV pureOf RV.isOwn
attribute [local simp] abin_add abin_sub abin_mul abin_quo abin_rem abin_eql abin_neq abin_lss abin_leq abin_gtr abin_geq
attribute [local simp] uL_snoc uL_set uL_take uL_drop uL_append uL_replicate uL_nil
attribute [local simp] acK_callG acD_callG St.giv gsSV gvSV retEnts ownEnts SO.still
attribute [local simp] S0G argSlotG givSV retQG retPG retAllG retOneG HObj.width V.scalar trimQ V.byte
attribute [local simp] zv V.fits fillOk fillV Z_eq
end Go.Vw
set_option linter.unusedVariables false
set_option linter.unusedSimpArgs false
namespace Go.Vw
open Go.Proofs

attribute [local simp] RunL_cons RunL_nil AOp_none AOp_some acK_v acK_call agK_tt agK_ff agK_tf agK_ft agK_tup agK_i aop aun St.ev St.heap St.put thenQ blockQ scopeQ upd_apply S0 argSlot lowV V.cells V.isAgg V.fits V.part partOk plains St.ret retSV svOf svsOf retQ retP retAll retOne uL_length uL_get? uL_get St.elems retH ownIdx ownAt
attribute [local simp] RunD_none RunD_some RunD_nil RunE_any acD_v acD_call agD_tt agD_ff agD_tf agD_ft agD_tup entsOf svref SO.opds SO.writes SO.makes callEnt pureSV pureOf RV.isOwn
attribute [local simp] abin_add abin_sub abin_mul abin_quo abin_rem abin_eql abin_neq abin_lss abin_leq abin_gtr abin_geq
attribute [local simp] uL_snoc uL_set uL_take uL_drop uL_append uL_replicate uL_nil
attribute [local simp] acK_callG acD_callG St.giv gsSV gvSV retEnts ownEnts SO.still
attribute [local simp] S0G argSlotG givSV retQG retPG retAllG retOneG HObj.width V.scalar trimQ V.byte
attribute [local simp] zv V.fits fillOk fillV Z_eq rv Q_eq
end Go.Vw
set_option linter.unusedVariables false
set_option linter.unusedSimpArgs false
namespace Go.Vw
open Go.Proofs

attribute [local simp] RunL_cons RunL_nil AOp_none AOp_some acK_v acK_call agK_tt agK_ff agK_tf agK_ft agK_tup agK_i aop aun St.ev St.heap St.put thenQ blockQ scopeQ upd_apply S0 argSlot lowV V.cells V.isAgg V.fits V.part partOk plains St.ret retSV svOf svsOf retQ retP retAll retOne uL_length uL_get? uL_get St.elems retH ownIdx ownAt
attribute [local simp] RunD_none RunD_some RunD_nil RunE_any acD_v acD_call agD_tt agD_ff agD_tf agD_ft agD_tup entsOf svref SO.opds SO.writes SO.makes callEnt pureSV pureOf RV.isOwn
attribute [local simp] abin_add abin_sub abin_mul abin_quo abin_rem abin_eql abin_neq abin_lss abin_leq abin_gtr abin_geq
attribute [local simp] uL_snoc uL_set uL_take uL_drop uL_append uL_replicate uL_nil
attribute [local simp] acK_callG acD_callG St.giv gsSV gvSV retEnts ownEnts SO.still
attribute [local simp] S0G argSlotG givSV retQG retPG retAllG retOneG HObj.width V.scalar trimQ V.byte
attribute [local simp] zv V.fits fillOk fillV Z_eq
attribute [local simp] rv Q_eq
end Go.Vw
set_option linter.unusedVariables false
set_option linter.unusedSimpArgs false
namespace Go.Vw
open Go.Proofs

def modR (a m : Int) : List RV := if m ≤ 0 then [.pure (.i .i64 0), .pure (.i .i64 1)] else [.pure (.i .i64 (a % m)), .pure (.i .i64 0)]
attribute [local simp] RunL_cons RunL_nil AOp_none AOp_some acK_v acK_call agK_tt agK_ff agK_tf agK_ft agK_tup agK_i aop aun St.ev St.heap St.put thenQ blockQ scopeQ upd_apply S0 argSlot lowV V.cells V.isAgg V.fits V.part partOk plains St.ret retSV svOf svsOf retQ retP retAll retOne uL_length uL_get? uL_get St.elems retH ownIdx ownAt
attribute [local simp] RunD_none RunD_some RunD_nil RunE_any acD_v acD_call agD_tt agD_ff agD_tf agD_ft agD_tup entsOf svref SO.opds SO.writes SO.makes callEnt pureSV pureOf RV.isOwn
attribute [local simp] abin_add abin_sub abin_mul abin_quo abin_rem abin_eql abin_neq abin_lss abin_leq abin_gtr abin_geq
attribute [local simp] uL_snoc uL_set uL_take uL_drop uL_append uL_replicate uL_nil
attribute [local simp] acK_callG acD_callG St.giv gsSV gvSV retEnts ownEnts SO.still
attribute [local simp] S0G argSlotG givSV retQG retPG retAllG retOneG HObj.width V.scalar trimQ V.byte
attribute [local simp] zv V.fits fillOk fillV Z_eq rv Q_eq
theorem rrest {k : Nat} {v w : V} {x y : Int} (hv : IsZ k v x) (hw : IsZ k w y) (hk : k ≤ 2 ^ 34) : Spec Tryz.prog f_ref04_Rest [v, w] (· = restR x y) := by
  have sg := rsign hw (by omega)
  have dv := fun h => rdivz hv hw hk h
  obtain ⟨n1, l1, rfl, h1, hx⟩ := hv
  obtain ⟨n2, l2, rfl, h2, hy⟩ := hw
  refine spec_at Tryz.func97 ok_ref04_Rest [] rfl (by simp) ?_
  unfold sc_ref04_Rest
  by_cases h0 : y ≤ 0
  · have hs : y.sign ≤ 0 := by rw [Int.sign_nonpos_iff]; exact h0
    rw [restR, if_pos h0]
    refine WS_seq (WS_reg [] ?_); simp [hs, Z_zero]
    refine WS_seq (WS_seq (WS_reg [] ?_)); simp [hs, Z_zero]
    refine callK sg ?_; simp [hs, Z_zero]
    refine WS_cond (t := true) (by simp [hs, Z_zero]) (fun _ => ?_) (fun h => by cases h)
    refine WS_seq (WS_reg [] ?_); simp [hs, Z_zero]
    refine WS_ret ?_; simp [hs, Z_zero]
  · have hs : ¬ y.sign ≤ 0 := by rw [Int.sign_nonpos_iff]; exact h0
    have dv := dv (by omega)
    rw [restR, if_neg h0]
    refine WS_seq (WS_reg [] ?_); simp [hs]
    refine WS_seq (WS_seq (WS_reg [] ?_)); simp [hs]
    refine callK sg ?_; simp [hs]
    refine WS_cond (t := false) (by simp [hs]) (fun h => by cases h) (fun _ => ?_)
    refine WS_skip ?_; simp [hs]
    refine WS_seq (WS_reg [] ?_); simp [hs]
    refine callK dv ?_; simp [hs]
    refine WS_seq (WS_reg [] ?_); simp [hs]
    refine WS_ret ?_; simp [hs]

theorem pmod {k : Nat} {v : V} {x : Int} (hv : IsZ k v x) (hk : k ≤ 2 ^ 34) (n : Int) (hn1 : -9223372036854775808 ≤ n) (hn2 : n ≤ 9223372036854775807) : Spec Tryz.prog f_prime_Mod [v, .i .i64 n] (· = modR x n) := by
  have o1 := zof n hn1 hn2
  have nl : zlen n ≤ 1 := zlen_small (by omega)
  have rs := prest (hv.mono (show k ≤ k + 1 by omega)) (isZ_of (x := n) (k := k + 1) (by omega)) (by omega)
  by_cases h0 : n ≤ 0
  · rw [restR, if_pos h0] at rs
    rw [modR, if_pos h0]
    obtain ⟨n1, l1, rfl, h1, hx⟩ := hv
    refine spec_at Tryz.func70 ok_prime_Mod [] rfl (by simp) ?_
    unfold sc_prime_Mod
    refine WS_seq (WS_reg [] ?_); simp
    refine WS_seq (WS_regD [] ?_); simp
    refine callD o1 rfl ?_; simp
    refine callD rs rfl ?_; simp
    refine ⟨rfl, ?_⟩
    refine WS_seq (WS_seq (WS_reg [] ?_)); simp
    refine WS_cond (t := true) (by simp) (fun _ => ?_) (fun h => by cases h)
    refine WS_seq (WS_reg [] ?_); simp
    refine WS_ret ?_; simp
  · rw [restR, if_neg h0] at rs
    rw [modR, if_neg h0]
    have r1 := Int.emod_nonneg x (show n ≠ 0 by omega)
    have r2 := Int.emod_lt_of_pos x (show 0 < n by omega)
    have rl := Nat.le_trans (zlen_emod x n (by omega)) nl
    obtain ⟨r, hr⟩ : ∃ r, r = x % n := ⟨_, rfl⟩
    rw [← hr] at rs r1 r2 rl ⊢
    have sm := zsmall (isZ_of rl) (by omega)
    rw [smallR, if_pos (by omega)] at sm
    obtain ⟨n1, l1, rfl, h1, hx⟩ := hv
    refine spec_at Tryz.func70 ok_prime_Mod [] rfl (by simp) ?_
    unfold sc_prime_Mod
    refine WS_seq (WS_reg [] ?_); simp
    refine WS_seq (WS_regD [] ?_); simp
    refine callD o1 rfl ?_; simp
    refine callD rs rfl ?_; simp
    refine ⟨rfl, ?_⟩
    refine WS_seq (WS_seq (WS_reg [] ?_)); simp
    refine WS_cond (t := false) (by simp) (fun h => by cases h) (fun _ => ?_)
    refine WS_skip ?_; simp
    refine WS_seq (WS_reg [] ?_); simp
    refine callK sm ?_; simp
    refine WS_seq (WS_reg [] ?_); simp
    refine WS_ret ?_; simp
theorem rmod {k : Nat} {v : V} {x : Int} (hv : IsZ k v x) (hk : k ≤ 2 ^ 33) (n : Int) (hn1 : -9223372036854775808 ≤ n) (hn2 : n ≤ 9223372036854775807) : Spec Tryz.prog f_ref04_Mod [v, .i .i64 n] (· = modR x n) := by
  have o1 := rof n hn1 hn2
  have nl : zlen n ≤ 1 := zlen_small (by omega)
  have rs := rrest (hv.mono (show k ≤ k + 1 by omega)) (isZ_of (x := n) (k := k + 1) (by omega)) (by omega)
  by_cases h0 : n ≤ 0
  · rw [restR, if_pos h0] at rs
    rw [modR, if_pos h0]
    obtain ⟨n1, l1, rfl, h1, hx⟩ := hv
    refine spec_at Tryz.func71 ok_ref04_Mod [] rfl (by simp) ?_
    unfold sc_ref04_Mod
    refine WS_seq (WS_reg [] ?_); simp
    refine WS_seq (WS_regD [] ?_); simp
    refine callD o1 rfl ?_; simp
    refine callD rs rfl ?_; simp
    refine ⟨rfl, ?_⟩
    refine WS_seq (WS_seq (WS_reg [] ?_)); simp
    refine WS_cond (t := true) (by simp) (fun _ => ?_) (fun h => by cases h)
    refine WS_seq (WS_reg [] ?_); simp
    refine WS_ret ?_; simp
  · rw [restR, if_neg h0] at rs
    rw [modR, if_neg h0]
    have r1 := Int.emod_nonneg x (show n ≠ 0 by omega)
    have r2 := Int.emod_lt_of_pos x (show 0 < n by omega)
    have rl := Nat.le_trans (zlen_emod x n (by omega)) nl
    obtain ⟨r, hr⟩ : ∃ r, r = x % n := ⟨_, rfl⟩
    rw [← hr] at rs r1 r2 rl ⊢
    have sm := rsmall (isZ_of rl) (by omega)
    rw [smallR, if_pos (by omega)] at sm
    obtain ⟨n1, l1, rfl, h1, hx⟩ := hv
    refine spec_at Tryz.func71 ok_ref04_Mod [] rfl (by simp) ?_
    unfold sc_ref04_Mod
    refine WS_seq (WS_reg [] ?_); simp
    refine WS_seq (WS_regD [] ?_); simp
    refine callD o1 rfl ?_; simp
    refine callD rs rfl ?_; simp
    refine ⟨rfl, ?_⟩
    refine WS_seq (WS_seq (WS_reg [] ?_)); simp
    refine WS_cond (t := false) (by simp) (fun h => by cases h) (fun _ => ?_)
    refine WS_skip ?_; simp
    refine WS_seq (WS_reg [] ?_); simp
    refine callK sm ?_; simp
    refine WS_seq (WS_reg [] ?_); simp
    refine WS_ret ?_; simp

end Go.Vw
set_option linter.unusedVariables false
set_option linter.unusedSimpArgs false
namespace Go.Vw
open Go.Proofs

attribute [local simp] RunL_cons RunL_nil AOp_none AOp_some acK_v acK_call agK_tt agK_ff agK_tf agK_ft agK_tup agK_i aop aun St.ev St.heap St.put thenQ blockQ scopeQ upd_apply S0 argSlot lowV V.cells V.isAgg V.fits V.part partOk plains St.ret retSV svOf svsOf retQ retP retAll retOne uL_length uL_get? uL_get St.elems retH ownIdx ownAt
attribute [local simp] RunD_none RunD_some RunD_nil RunE_any acD_v acD_call agD_tt agD_ff agD_tf agD_ft agD_tup entsOf svref SO.opds SO.writes SO.makes callEnt pureSV pureOf RV.isOwn
attribute [local simp] abin_add abin_sub abin_mul abin_quo abin_rem abin_eql abin_neq abin_lss abin_leq abin_gtr abin_geq
attribute [local simp] uL_snoc uL_set uL_take uL_drop uL_append uL_replicate uL_nil
attribute [local simp] acK_callG acD_callG St.giv gsSV gvSV retEnts ownEnts SO.still
attribute [local simp] S0G argSlotG givSV retQG retPG retAllG retOneG HObj.width V.scalar trimQ V.byte
attribute [local simp] zv V.fits fillOk fillV Z_eq
attribute [local simp] rv Q_eq
end Go.Vw

