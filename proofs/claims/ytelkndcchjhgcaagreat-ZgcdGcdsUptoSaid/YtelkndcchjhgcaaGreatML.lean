/- The contracts of the laws of layer 10 and 11. -/
import Derived.Test.YtelkndcchjhgcaaGreatMA
import Derived.Test.YtelkndcchjhgcaaGreatMB
import Derived.Test.YtelkndcchjhgcaaGreatMC
import Derived.Test.YtelkndcchjhgcaaGreatMD
import Derived.Test.YtelkndcchjhgcaaGreatME
import Derived.Test.YtelkndcchjhgcaaGreatMF
import Derived.Test.YtelkndcchjhgcaaGreatMG
import Derived.Test.YtelkndcchjhgcaaGreatMP
set_option linter.unusedVariables false
set_option linter.unusedSimpArgs false
namespace Go.Vw
open Go.Proofs Go.Py

attribute [local simp] RunL_cons RunL_nil AOp_none AOp_some acK_v acK_call agK_tt agK_ff agK_tf agK_ft agK_tup agK_i aop aun St.ev St.heap St.put thenQ blockQ scopeQ upd_apply S0 argSlot lowV V.cells V.isAgg V.fits V.part partOk plains St.ret retSV svOf svsOf retQ retP retAll retOne uL_length uL_get? uL_get St.elems retH ownIdx ownAt
attribute [local simp] RunD_none RunD_some RunD_nil RunE_any acD_v acD_call agD_tt agD_ff agD_tf agD_ft agD_tup entsOf svref SO.opds SO.writes SO.makes callEnt pureSV pureOf RV.isOwn
attribute [local simp] abin_add abin_sub abin_mul abin_quo abin_rem abin_eql abin_neq abin_lss abin_leq abin_gtr abin_geq
attribute [local simp] uL_snoc uL_set uL_take uL_drop uL_append uL_replicate uL_nil
attribute [local simp] acK_callG acD_callG St.giv gsSV gvSV retEnts ownEnts SO.still
attribute [local simp] S0G argSlotG givSV retQG retPG retAllG retOneG HObj.width V.scalar trimQ V.byte
attribute [local simp] zv V.fits fillOk fillV Z_eq
end Go.Vw
namespace Go.Vw
open Go.Proofs Go.Py

attribute [local simp] RunL_cons RunL_nil AOp_none AOp_some acK_v acK_call agK_tt agK_ff agK_tf agK_ft agK_tup agK_i aop aun St.ev St.heap St.put thenQ blockQ scopeQ upd_apply S0 argSlot lowV V.cells V.isAgg V.fits V.part partOk plains St.ret retSV svOf svsOf retQ retP retAll retOne uL_length uL_get? uL_get St.elems retH ownIdx ownAt
attribute [local simp] RunD_none RunD_some RunD_nil RunE_any acD_v acD_call agD_tt agD_ff agD_tf agD_ft agD_tup entsOf svref SO.opds SO.writes SO.makes callEnt pureSV pureOf RV.isOwn
attribute [local simp] abin_add abin_sub abin_mul abin_quo abin_rem abin_eql abin_neq abin_lss abin_leq abin_gtr abin_geq
attribute [local simp] uL_snoc uL_set uL_take uL_drop uL_append uL_replicate uL_nil
attribute [local simp] acK_callG acD_callG St.giv gsSV gvSV retEnts ownEnts SO.still
attribute [local simp] S0G argSlotG givSV retQG retPG retAllG retOneG HObj.width V.scalar trimQ V.byte
attribute [local simp] zv V.fits fillOk fillV Z_eq
end Go.Vw
namespace Go.Vw
open Go.Proofs Go.Py

attribute [local simp] RunL_cons RunL_nil AOp_none AOp_some acK_v acK_call agK_tt agK_ff agK_tf agK_ft agK_tup agK_i aop aun St.ev St.heap St.put thenQ blockQ scopeQ upd_apply S0 argSlot lowV V.cells V.isAgg V.fits V.part partOk plains St.ret retSV svOf svsOf retQ retP retAll retOne uL_length uL_get? uL_get St.elems retH ownIdx ownAt
attribute [local simp] RunD_none RunD_some RunD_nil RunE_any acD_v acD_call agD_tt agD_ff agD_tf agD_ft agD_tup entsOf svref SO.opds SO.writes SO.makes callEnt pureSV pureOf RV.isOwn
attribute [local simp] abin_add abin_sub abin_mul abin_quo abin_rem abin_eql abin_neq abin_lss abin_leq abin_gtr abin_geq
attribute [local simp] uL_snoc uL_set uL_take uL_drop uL_append uL_replicate uL_nil
attribute [local simp] acK_callG acD_callG St.giv gsSV gvSV retEnts ownEnts SO.still
attribute [local simp] S0G argSlotG givSV retQG retPG retAllG retOneG HObj.width V.scalar trimQ V.byte
attribute [local simp] zv V.fits fillOk fillV Z_eq
end Go.Vw
namespace Go.Vw
open Go.Proofs Go.Py

end Go.Vw
namespace Go.Vw
open Go.Proofs Go.Py

attribute [local simp] RunL_cons RunL_nil AOp_none AOp_some acK_v acK_call agK_tt agK_ff agK_tf agK_ft agK_tup agK_i aop aun St.ev St.heap St.put thenQ blockQ scopeQ upd_apply S0 argSlot lowV V.cells V.isAgg V.fits V.part partOk plains St.ret retSV svOf svsOf retQ retP retAll retOne uL_length uL_get? uL_get St.elems retH ownIdx ownAt
attribute [local simp] RunD_none RunD_some RunD_nil RunE_any acD_v acD_call agD_tt agD_ff agD_tf agD_ft agD_tup entsOf svref SO.opds SO.writes SO.makes callEnt pureSV pureOf RV.isOwn
attribute [local simp] abin_add abin_sub abin_mul abin_quo abin_rem abin_eql abin_neq abin_lss abin_leq abin_gtr abin_geq
attribute [local simp] uL_snoc uL_set uL_take uL_drop uL_append uL_replicate uL_nil
attribute [local simp] acK_callG acD_callG St.giv gsSV gvSV retEnts ownEnts SO.still
attribute [local simp] S0G argSlotG givSV retQG retPG retAllG retOneG HObj.width V.scalar trimQ V.byte
attribute [local simp] zv V.fits fillOk fillV Z_eq
end Go.Vw
namespace Go.Vw
open Go.Proofs Go.Py

attribute [local simp] RunL_cons RunL_nil AOp_none AOp_some acK_v acK_call agK_tt agK_ff agK_tf agK_ft agK_tup agK_i aop aun St.ev St.heap St.put thenQ blockQ scopeQ upd_apply S0 argSlot lowV V.cells V.isAgg V.fits V.part partOk plains St.ret retSV svOf svsOf retQ retP retAll retOne uL_length uL_get? uL_get St.elems retH ownIdx ownAt
attribute [local simp] RunD_none RunD_some RunD_nil RunE_any acD_v acD_call agD_tt agD_ff agD_tf agD_ft agD_tup entsOf svref SO.opds SO.writes SO.makes callEnt pureSV pureOf RV.isOwn
attribute [local simp] abin_add abin_sub abin_mul abin_quo abin_rem abin_eql abin_neq abin_lss abin_leq abin_gtr abin_geq
attribute [local simp] uL_snoc uL_set uL_take uL_drop uL_append uL_replicate uL_nil
attribute [local simp] acK_callG acD_callG St.giv gsSV gvSV retEnts ownEnts SO.still
attribute [local simp] S0G argSlotG givSV retQG retPG retAllG retOneG HObj.width V.scalar trimQ V.byte
attribute [local simp] zv V.fits fillOk fillV Z_eq
end Go.Vw
namespace Go.Vw
open Go.Proofs Go.Py

attribute [local simp] RunL_cons RunL_nil AOp_none AOp_some acK_v acK_call agK_tt agK_ff agK_tf agK_ft agK_tup agK_i aop aun St.ev St.heap St.put thenQ blockQ scopeQ upd_apply S0 argSlot lowV V.cells V.isAgg V.fits V.part partOk plains St.ret retSV svOf svsOf retQ retP retAll retOne uL_length uL_get? uL_get St.elems retH ownIdx ownAt
attribute [local simp] RunD_none RunD_some RunD_nil RunE_any acD_v acD_call agD_tt agD_ff agD_tf agD_ft agD_tup entsOf svref SO.opds SO.writes SO.makes callEnt pureSV pureOf RV.isOwn
attribute [local simp] abin_add abin_sub abin_mul abin_quo abin_rem abin_eql abin_neq abin_lss abin_leq abin_gtr abin_geq
attribute [local simp] uL_snoc uL_set uL_take uL_drop uL_append uL_replicate uL_nil
attribute [local simp] acK_callG acD_callG St.giv gsSV gvSV retEnts ownEnts SO.still
attribute [local simp] S0G argSlotG givSV retQG retPG retAllG retOneG HObj.width V.scalar trimQ V.byte
attribute [local simp] zv V.fits fillOk fillV Z_eq
end Go.Vw
namespace Go.Vw
open Go.Proofs Go.Py

attribute [local simp] RunL_cons RunL_nil AOp_none AOp_some acK_v acK_call agK_tt agK_ff agK_tf agK_ft agK_tup agK_i aop aun St.ev St.heap St.put thenQ blockQ scopeQ upd_apply S0 argSlot lowV V.cells V.isAgg V.fits V.part partOk plains St.ret retSV svOf svsOf retQ retP retAll retOne uL_length uL_get? uL_get St.elems retH ownIdx ownAt
attribute [local simp] RunD_none RunD_some RunD_nil RunE_any acD_v acD_call agD_tt agD_ff agD_tf agD_ft agD_tup entsOf svref SO.opds SO.writes SO.makes callEnt pureSV pureOf RV.isOwn
attribute [local simp] abin_add abin_sub abin_mul abin_quo abin_rem abin_eql abin_neq abin_lss abin_leq abin_gtr abin_geq
attribute [local simp] uL_snoc uL_set uL_take uL_drop uL_append uL_replicate uL_nil
attribute [local simp] acK_callG acD_callG St.giv gsSV gvSV retEnts ownEnts SO.still
attribute [local simp] S0G argSlotG givSV retQG retPG retAllG retOneG HObj.width V.scalar trimQ V.byte
attribute [local simp] zv V.fits fillOk fillV Z_eq
end Go.Vw
namespace Go.Vw
open Go.Proofs Go.Py

attribute [local simp] RunL_cons RunL_nil AOp_none AOp_some acK_v acK_call agK_tt agK_ff agK_tf agK_ft agK_tup agK_i aop aun St.ev St.heap St.put thenQ blockQ scopeQ upd_apply S0 argSlot lowV V.cells V.isAgg V.fits V.part partOk plains St.ret retSV svOf svsOf retQ retP retAll retOne uL_length uL_get? uL_get St.elems retH ownIdx ownAt
attribute [local simp] RunD_none RunD_some RunD_nil RunE_any acD_v acD_call agD_tt agD_ff agD_tf agD_ft agD_tup entsOf svref SO.opds SO.writes SO.makes callEnt pureSV pureOf RV.isOwn
attribute [local simp] abin_add abin_sub abin_mul abin_quo abin_rem abin_eql abin_neq abin_lss abin_leq abin_gtr abin_geq
attribute [local simp] uL_snoc uL_set uL_take uL_drop uL_append uL_replicate uL_nil
attribute [local simp] acK_callG acD_callG St.giv gsSV gvSV retEnts ownEnts SO.still
attribute [local simp] S0G argSlotG givSV retQG retPG retAllG retOneG HObj.width V.scalar trimQ V.byte
attribute [local simp] zv V.fits fillOk fillV Z_eq
end Go.Vw
namespace Go.Vw
open Go.Proofs Go.Py

attribute [local simp] RunL_cons RunL_nil AOp_none AOp_some acK_v acK_call agK_tt agK_ff agK_tf agK_ft agK_tup agK_i aop aun St.ev St.heap St.put thenQ blockQ scopeQ upd_apply S0 argSlot lowV V.cells V.isAgg V.fits V.part partOk plains St.ret retSV svOf svsOf retQ retP retAll retOne uL_length uL_get? uL_get St.elems retH ownIdx ownAt
attribute [local simp] RunD_none RunD_some RunD_nil RunE_any acD_v acD_call agD_tt agD_ff agD_tf agD_ft agD_tup entsOf svref SO.opds SO.writes SO.makes callEnt pureSV pureOf RV.isOwn
attribute [local simp] abin_add abin_sub abin_mul abin_quo abin_rem abin_eql abin_neq abin_lss abin_leq abin_gtr abin_geq
attribute [local simp] uL_snoc uL_set uL_take uL_drop uL_append uL_replicate uL_nil
attribute [local simp] acK_callG acD_callG St.giv gsSV gvSV retEnts ownEnts SO.still
attribute [local simp] S0G argSlotG givSV retQG retPG retAllG retOneG HObj.width V.scalar trimQ V.byte
attribute [local simp] zv V.fits fillOk fillV Z_eq
end Go.Vw
namespace Go.Vw
open Go.Proofs Go.Py

attribute [local simp] RunL_cons RunL_nil AOp_none AOp_some acK_v acK_call agK_tt agK_ff agK_tf agK_ft agK_tup agK_i aop aun St.ev St.heap St.put thenQ blockQ scopeQ upd_apply S0 argSlot lowV V.cells V.isAgg V.fits V.part partOk plains St.ret retSV svOf svsOf retQ retP retAll retOne uL_length uL_get? uL_get St.elems retH ownIdx ownAt
attribute [local simp] RunD_none RunD_some RunD_nil RunE_any acD_v acD_call agD_tt agD_ff agD_tf agD_ft agD_tup entsOf svref SO.opds SO.writes SO.makes callEnt pureSV pureOf RV.isOwn
attribute [local simp] abin_add abin_sub abin_mul abin_quo abin_rem abin_eql abin_neq abin_lss abin_leq abin_gtr abin_geq
attribute [local simp] uL_snoc uL_set uL_take uL_drop uL_append uL_replicate uL_nil
attribute [local simp] acK_callG acD_callG St.giv gsSV gvSV retEnts ownEnts SO.still
attribute [local simp] S0G argSlotG givSV retQG retPG retAllG retOneG HObj.width V.scalar trimQ V.byte
attribute [local simp] zv V.fits fillOk fillV Z_eq
set_option maxHeartbeats 1000000 in
theorem small11 (n w : Nat) (hn : n ≤ 2 ^ 40) (hw : w ≤ 2 ^ 40) (Ms : List (List (Bool × List Nat))) (hM : Ms.length ≤ 2 ^ 40) (hMs : ∀ M ∈ Ms, M.length ≤ 2 ^ 40) : Spec Tryz.prog f_law11_small [.i .i64 (n : Int), .i .i64 (w : Int), .sl none (mL Ms)] (· = [.pure (.b (smB n w Ms))]) := by
  have hml : (mL Ms).length = Ms.length := by simp [mL]
  refine spec_at Tryz.func40 ok_law11_small [] rfl (by simp) ?_
  unfold sc_law11_small
  refine WS_seq (WS_reg [] ?_); simp
  refine WS_seq (WS_seq (WS_reg [] ?_)); simp
  refine WS_block ?_
  refine WS_loop (SmS n w Ms) (fun S => Ms.length - nM 7 S) ⟨0, by omega, rfl, rfl, rfl, rfl, rfl⟩ ?_
  rintro S ⟨i, hi, s0, s1, s2, s7, hall⟩
  have d7 := nM_eq s7
  by_cases hlt : i < Ms.length
  · have hltI : (i : Int) < (Ms.length : Int) := by omega
    have hml2 : i < (mL Ms).length := by omega
    have hget : (mL Ms)[i] = .sl (some 2) (zL Ms[i]) := by simp [mL]
    have hmem := List.getElem_mem hlt
    have htk := List.take_succ_eq_append_getElem hlt
    obtain ⟨M, hMe⟩ : ∃ M, M = Ms[i] := ⟨_, rfl⟩
    rw [← hMe] at hget hmem htk
    have hMl := hMs M hmem
    have hzl : (zL M).length = M.length := by simp [zL]
    have wi := i64_succ i (by omega)
    obtain ⟨O, hO⟩ : ∃ O, O = mL Ms := ⟨_, rfl⟩
    have hOl : i < O.length := by rw [hO]; omega
    have hg2 : O[i] = .sl (some 2) (zL M) := by simp only [hO]; exact hget
    rw [← hO] at hml s2
    by_cases hb : M.length ≤ n
    · have hbI : ¬ (n : Int) < (M.length : Int) := by omega
      refine WS_seq (WS_seq (WS_reg [] ?_)); simp [s0, s1, s2, s7, hlt, hltI, hml, hg2, hzl, hbI]
      refine WS_cond (t := true) (by simp [s0, s1, s2, s7, hlt, hltI, hml, hg2, hzl, hbI]) (fun _ => ?_) (fun h => by cases h)
      refine WS_skip ?_; simp [s0, s1, s2, s7, hlt, hltI, hml, hg2, hzl, hbI]
      refine WS_seq (WS_block (WS_seq (WS_seq (WS_reg [] ?_)))); simp [s0, s1, s2, s7, hlt, hltI, hml, hg2, hzl, hbI]
      refine WS_cond (t := false) (by simp [s0, s1, s2, s7, hlt, hltI, hml, hg2, hzl, hbI]) (fun h => by cases h) (fun _ => ?_)
      refine WS_skip ?_; simp [s0, s1, s2, s7, hlt, hltI, hml, hg2, hzl, hbI]
      refine WS_seq (WS_reg [] ?_); simp [s0, s1, s2, s7, hlt, hltI, hml, hg2, hzl, hbI]
      refine WS_block ?_
      refine WS_loop (SmJ n w Ms i M) (fun S => M.length - nM 8 S) ⟨0, by omega, by simp, rfl, by simp [s0], by simp [s1], by simp [s2, hO], by simp [s7], hall⟩ ?_
      clear s0 s1 s2 s7
      rintro S' ⟨k, hk, s8, hr, s0, s1, s2, s7, -⟩
      have d8 := nM_eq s8
      rw [← hO] at s2
      by_cases hlt2 : k < M.length
      · have hltI2 : (k : Int) < (M.length : Int) := by omega
        have hzk : k < (zL M).length := by omega
        have hgk : (zL M)[k] = .agg [.b M[k].1, .sl none (uL M[k].2)] := by simp [zL]
        have htk2 := List.take_succ_eq_append_getElem hlt2
        have hmem2 := List.getElem_mem hlt2
        obtain ⟨p, hp⟩ : ∃ p, p = M[k] := ⟨_, rfl⟩
        rw [← hp] at hgk htk2 hmem2
        have wk := i64_succ k (by omega)
        obtain ⟨Z1, hZ1⟩ : ∃ O, O = zL M := ⟨_, rfl⟩
        have hZl : k < Z1.length := by rw [hZ1]; omega
        have hg3 : Z1[k] = .agg [.b p.1, .sl none (uL p.2)] := by simp only [hZ1]; exact hgk
        rw [← hZ1] at hzl hg2
        by_cases hq : p.2.length ≤ w
        · have hqI : ¬ (w : Int) < (p.2.length : Int) := by omega
          refine WS_seq (WS_seq (WS_reg [] ?_)); simp [s0, s1, s2, s7, s8, hlt, hltI, hlt2, hltI2, hml, hg2, hzl, hg3, hqI, wk]
          refine WS_cond (t := true) (by simp [s0, s1, s2, s7, s8, hlt, hltI, hlt2, hltI2, hml, hg2, hzl, hg3, hqI, wk]) (fun _ => ?_) (fun h => by cases h)
          refine WS_skip ?_; simp [s0, s1, s2, s7, s8, hlt, hltI, hlt2, hltI2, hml, hg2, hzl, hg3, hqI, wk]
          refine WS_seq (WS_block (WS_seq (WS_reg [] ?_))); simp [s0, s1, s2, s7, s8, hlt, hltI, hlt2, hltI2, hml, hg2, hzl, hg3, hqI, wk]
          refine WS_cond (t := false) (by simp [s0, s1, s2, s7, s8, hlt, hltI, hlt2, hltI2, hml, hg2, hzl, hg3, hqI, wk]) (fun h => by cases h) (fun _ => ?_)
          refine WS_skip ?_; simp [s0, s1, s2, s7, s8, hlt, hltI, hlt2, hltI2, hml, hg2, hzl, hg3, hqI, wk]
          refine WS_reg [] ?_; simp [s0, s1, s2, s7, s8, hlt, hltI, hlt2, hltI2, hml, hg2, hzl, hg3, hqI, wk]
          refine ⟨⟨k + 1, by omega, by simp, by rw [htk2]; exact smR_snoc hr hq, by simp [s0], by simp [s1], by simp [s2, hO], by simp [s7], hall⟩, ?_⟩
          show M.length - nM 8 _ < M.length - nM 8 S'
          rw [d8, nM_eq (i := 8) (n := k + 1) (by simp)]
          omega
        · have hqI : (w : Int) < (p.2.length : Int) := by omega
          have hno : smR w M = false := by
            rw [smR, List.all_eq_false]
            exact ⟨p, hmem2, by simp; omega⟩
          rw [smB_false hmem (by rw [hno, Bool.and_false])]
          refine WS_seq (WS_seq (WS_reg [] ?_)); simp [s0, s1, s2, s7, s8, hlt, hltI, hlt2, hltI2, hml, hg2, hzl, hg3, hqI, wk]
          refine WS_cond (t := true) (by simp [s0, s1, s2, s7, s8, hlt, hltI, hlt2, hltI2, hml, hg2, hzl, hg3, hqI, wk]) (fun _ => ?_) (fun h => by cases h)
          refine WS_skip ?_; simp [s0, s1, s2, s7, s8, hlt, hltI, hlt2, hltI2, hml, hg2, hzl, hg3, hqI, wk]
          refine WS_seq (WS_block (WS_seq (WS_reg [] ?_))); simp [s0, s1, s2, s7, s8, hlt, hltI, hlt2, hltI2, hml, hg2, hzl, hg3, hqI, wk]
          refine WS_cond (t := true) (by simp [s0, s1, s2, s7, s8, hlt, hltI, hlt2, hltI2, hml, hg2, hzl, hg3, hqI, wk]) (fun _ => ?_) (fun h => by cases h)
          refine WS_seq (WS_reg [] ?_); simp [s0, s1, s2, s7, s8, hlt, hltI, hlt2, hltI2, hml, hg2, hzl, hg3, hqI, wk]
          refine WS_ret ?_; simp [s0, s1, s2, s7, s8, hlt, hltI, hlt2, hltI2, hml, hg2, hzl, hg3, hqI, wk]
      · obtain rfl : k = M.length := by omega
        have hltI2 : ¬ (M.length : Int) < (M.length : Int) := by omega
        rw [List.take_length] at hr
        refine WS_seq (WS_seq (WS_reg [] ?_)); simp [s0, s1, s2, s7, s8, hlt, hltI, hltI2, hml, hg2, hzl, wi]
        refine WS_cond (t := false) (by simp [s0, s1, s2, s7, s8, hlt, hltI, hltI2, hml, hg2, hzl, wi]) (fun h => by cases h) (fun _ => ?_)
        refine WS_exit ?_; simp [s0, s1, s2, s7, s8, hlt, hltI, hltI2, hml, hg2, hzl, wi]
        refine WS_reg [] ?_; simp [s0, s1, s2, s7, s8, hlt, hltI, hltI2, hml, hg2, hzl, wi]
        refine ⟨⟨i + 1, by omega, by simp [s0], by simp [s1], by simp [s2, hO], by simp, by rw [htk]; exact smB_snoc hall hb hr⟩, ?_⟩
        show Ms.length - nM 7 _ < Ms.length - nM 7 S
        rw [d7, nM_eq (i := 7) (n := i + 1) (by simp)]
        omega
    · have hbI : (n : Int) < (M.length : Int) := by omega
      rw [smB_false hmem (by simp; omega)]
      refine WS_seq (WS_seq (WS_reg [] ?_)); simp [s0, s1, s2, s7, hlt, hltI, hml, hg2, hzl, hbI]
      refine WS_cond (t := true) (by simp [s0, s1, s2, s7, hlt, hltI, hml, hg2, hzl, hbI]) (fun _ => ?_) (fun h => by cases h)
      refine WS_skip ?_; simp [s0, s1, s2, s7, hlt, hltI, hml, hg2, hzl, hbI]
      refine WS_seq (WS_block (WS_seq (WS_seq (WS_reg [] ?_)))); simp [s0, s1, s2, s7, hlt, hltI, hml, hg2, hzl, hbI]
      refine WS_cond (t := true) (by simp [s0, s1, s2, s7, hlt, hltI, hml, hg2, hzl, hbI]) (fun _ => ?_) (fun h => by cases h)
      refine WS_seq (WS_reg [] ?_); simp [s0, s1, s2, s7, hlt, hltI, hml, hg2, hzl, hbI]
      refine WS_ret ?_; simp [s0, s1, s2, s7, hlt, hltI, hml, hg2, hzl, hbI]
  · obtain rfl : i = Ms.length := by omega
    have hltI : ¬ (Ms.length : Int) < (Ms.length : Int) := by omega
    rw [List.take_length] at hall
    rw [hall]
    refine WS_seq (WS_seq (WS_reg [] ?_)); simp [s0, s1, s2, s7, hltI, hml]
    refine WS_cond (t := false) (by simp [s0, s1, s2, s7, hltI, hml]) (fun h => by cases h) (fun _ => ?_)
    refine WS_exit ?_; simp [s0, s1, s2, s7, hltI, hml]
    refine WS_seq (WS_reg [] ?_); simp [s0, s1, s2, s7, hltI, hml]
    refine WS_ret ?_; simp [s0, s1, s2, s7, hltI, hml]
theorem same11 {i : Nat} {l : List Int} (h : Ld i l) (hi : i ≤ 40) : Spec Tryz.prog f_law11_same [.sl (some 2) (PZ l), .sl (some 2) (PZ l)] (· = [.pure (.b true)]) := by
  have sm := psame l (h.pl40 hi) (h.len40 hi)
  obtain ⟨O, hO⟩ : ∃ O, O = PZ l := ⟨_, rfl⟩
  rw [← hO] at sm ⊢
  refine spec_at Tryz.func43 ok_law11_same [] rfl (by simp) ?_
  unfold sc_law11_same
  refine WS_seq (WS_reg [] ?_); simp
  refine WS_seq (WS_reg [] ?_); simp
  refine callK sm ?_; simp
  refine WS_ret ?_; simp
theorem awake11 : Spec Tryz.prog f_law11_awake [] (· = [.pure (.b true)]) := by
  have s1 : Sml [-2, 0, 1] := by decide
  have s2 : Sml [-3, 0, 1] := by decide
  have s3 : Sml [-4, 0, 4] := by decide
  have s4 : Sml [6, 6] := by decide
  have s5 : Sml [2, 2] := by decide
  have o1 := ofc s1 (by decide) (by decide)
  have o2 := ofc s2 (by decide) (by decide)
  have o3 := ofc s3 (by decide) (by decide)
  have o4 := ofc s4 (by decide) (by decide)
  have o5 := ofc s5 (by decide) (by decide)
  have rs := res_awake
  have gc := own_plain (ggcd (L := 3) (isP_PZ (pl_small s3)) (isP_PZ (pl_small s4)) (by rw [PZ_length]; decide) (by rw [PZ_length]; decide) (by decide) (by decide))
  rw [show tr (gdZ [-4, 0, 4] [6, 6]) = [2, 2] by rw [gdZ, gdL_step (by decide), gdL_nil (by decide)]; decide] at gc
  have tt := ztext (k := 1) (isZ_Z (z := 1) (zlen_small (by decide))) (by omega)
  rw [show zT 1 = [49] by rw [zT, if_neg (by omega)]; decide +kernel] at tt
  have sm := same11 (i := 2) (l := [2, 2]) ⟨(pl_small s5).mono (by decide), by decide⟩ (by omega)
  have l5 : (PZ [2, 2]).length = 2 := by rw [PZ_length]; rfl
  obtain ⟨A1, h1⟩ : ∃ A, A = PZ [-2, 0, 1] := ⟨_, rfl⟩
  obtain ⟨A2, h2⟩ : ∃ A, A = PZ [-3, 0, 1] := ⟨_, rfl⟩
  obtain ⟨A3, h3⟩ : ∃ A, A = PZ [-4, 0, 4] := ⟨_, rfl⟩
  obtain ⟨A4, h4⟩ : ∃ A, A = PZ [6, 6] := ⟨_, rfl⟩
  obtain ⟨A5, h5⟩ : ∃ A, A = PZ [2, 2] := ⟨_, rfl⟩
  rw [← h1] at o1 rs
  rw [← h2] at o2 rs
  rw [← h3] at o3 gc
  rw [← h4] at o4 gc
  rw [← h5] at o5 gc sm l5
  refine spec_at Tryz.func39 ok_law11_awake [] rfl (by simp) ?_
  unfold sc_law11_awake
  refine WS_seq (WS_reg [] ?_); simp [tx, abin_seql, l5]
  refine WS_seq (WS_reg [] ?_); simp [tx, abin_seql, l5]
  refine callK o1 ?_; simp [tx, abin_seql, l5]
  refine callK o2 ?_; simp [tx, abin_seql, l5]
  refine callK rs ?_; simp [tx, abin_seql, l5]
  refine WS_seq (WS_reg [] ?_); simp [tx, abin_seql, l5]
  refine callK o3 ?_; simp [tx, abin_seql, l5]
  refine callK o4 ?_; simp [tx, abin_seql, l5]
  refine callK gc ?_; simp [tx, abin_seql, l5]
  refine WS_seq (WS_reg [] ?_); simp [tx, abin_seql, l5]
  refine callK tt ?_; simp [tx, abin_seql, l5]
  refine callK o5 ?_; simp [tx, abin_seql, l5]
  refine callK sm ?_; simp [tx, abin_seql, l5]
  refine WS_ret ?_; simp [tx, abin_seql, l5]
end Go.Vw
namespace Go.Vw
open Go.Proofs Go.Py

attribute [local simp] RunL_cons RunL_nil AOp_none AOp_some acK_v acK_call agK_tt agK_ff agK_tf agK_ft agK_tup agK_i aop aun St.ev St.heap St.put thenQ blockQ scopeQ upd_apply S0 argSlot lowV V.cells V.isAgg V.fits V.part partOk plains St.ret retSV svOf svsOf retQ retP retAll retOne uL_length uL_get? uL_get St.elems retH ownIdx ownAt
attribute [local simp] RunD_none RunD_some RunD_nil RunE_any acD_v acD_call agD_tt agD_ff agD_tf agD_ft agD_tup entsOf svref SO.opds SO.writes SO.makes callEnt pureSV pureOf RV.isOwn
attribute [local simp] abin_add abin_sub abin_mul abin_quo abin_rem abin_eql abin_neq abin_lss abin_leq abin_gtr abin_geq
attribute [local simp] uL_snoc uL_set uL_take uL_drop uL_append uL_replicate uL_nil
attribute [local simp] acK_callG acD_callG St.giv gsSV gvSV retEnts ownEnts SO.still
attribute [local simp] S0G argSlotG givSV retQG retPG retAllG retOneG HObj.width V.scalar trimQ V.byte
attribute [local simp] zv V.fits fillOk fillV Z_eq
end Go.Vw
namespace Go.Vw
open Go.Proofs Go.Py

attribute [local simp] RunL_cons RunL_nil AOp_none AOp_some acK_v acK_call agK_tt agK_ff agK_tf agK_ft agK_tup agK_i aop aun St.ev St.heap St.put thenQ blockQ scopeQ upd_apply S0 argSlot lowV V.cells V.isAgg V.fits V.part partOk plains St.ret retSV svOf svsOf retQ retP retAll retOne uL_length uL_get? uL_get St.elems retH ownIdx ownAt
attribute [local simp] RunD_none RunD_some RunD_nil RunE_any acD_v acD_call agD_tt agD_ff agD_tf agD_ft agD_tup entsOf svref SO.opds SO.writes SO.makes callEnt pureSV pureOf RV.isOwn
attribute [local simp] abin_add abin_sub abin_mul abin_quo abin_rem abin_eql abin_neq abin_lss abin_leq abin_gtr abin_geq
attribute [local simp] uL_snoc uL_set uL_take uL_drop uL_append uL_replicate uL_nil
attribute [local simp] acK_callG acD_callG St.giv gsSV gvSV retEnts ownEnts SO.still
attribute [local simp] S0G argSlotG givSV retQG retPG retAllG retOneG HObj.width V.scalar trimQ V.byte
attribute [local simp] zv V.fits fillOk fillV Z_eq
end Go.Vw
namespace Go.Vw
open Go.Proofs Go.Py

attribute [local simp] RunL_cons RunL_nil AOp_none AOp_some acK_v acK_call agK_tt agK_ff agK_tf agK_ft agK_tup agK_i aop aun St.ev St.heap St.put thenQ blockQ scopeQ upd_apply S0 argSlot lowV V.cells V.isAgg V.fits V.part partOk plains St.ret retSV svOf svsOf retQ retP retAll retOne uL_length uL_get? uL_get St.elems retH ownIdx ownAt
attribute [local simp] RunD_none RunD_some RunD_nil RunE_any acD_v acD_call agD_tt agD_ff agD_tf agD_ft agD_tup entsOf svref SO.opds SO.writes SO.makes callEnt pureSV pureOf RV.isOwn
attribute [local simp] abin_add abin_sub abin_mul abin_quo abin_rem abin_eql abin_neq abin_lss abin_leq abin_gtr abin_geq
attribute [local simp] uL_snoc uL_set uL_take uL_drop uL_append uL_replicate uL_nil
attribute [local simp] acK_callG acD_callG St.giv gsSV gvSV retEnts ownEnts SO.still
attribute [local simp] S0G argSlotG givSV retQG retPG retAllG retOneG HObj.width V.scalar trimQ V.byte
attribute [local simp] zv V.fits fillOk fillV Z_eq
end Go.Vw
namespace Go.Vw
open Go.Proofs Go.Py

attribute [local simp] RunL_cons RunL_nil AOp_none AOp_some acK_v acK_call agK_tt agK_ff agK_tf agK_ft agK_tup agK_i aop aun St.ev St.heap St.put thenQ blockQ scopeQ upd_apply S0 argSlot lowV V.cells V.isAgg V.fits V.part partOk plains St.ret retSV svOf svsOf retQ retP retAll retOne uL_length uL_get? uL_get St.elems retH ownIdx ownAt
attribute [local simp] RunD_none RunD_some RunD_nil RunE_any acD_v acD_call agD_tt agD_ff agD_tf agD_ft agD_tup entsOf svref SO.opds SO.writes SO.makes callEnt pureSV pureOf RV.isOwn
attribute [local simp] abin_add abin_sub abin_mul abin_quo abin_rem abin_eql abin_neq abin_lss abin_leq abin_gtr abin_geq
attribute [local simp] uL_snoc uL_set uL_take uL_drop uL_append uL_replicate uL_nil
attribute [local simp] acK_callG acD_callG St.giv gsSV gvSV retEnts ownEnts SO.still
attribute [local simp] S0G argSlotG givSV retQG retPG retAllG retOneG HObj.width V.scalar trimQ V.byte
attribute [local simp] zv V.fits fillOk fillV Z_eq
end Go.Vw
namespace Go.Vw
open Go.Proofs Go.Py

attribute [local simp] RunL_cons RunL_nil AOp_none AOp_some acK_v acK_call agK_tt agK_ff agK_tf agK_ft agK_tup agK_i aop aun St.ev St.heap St.put thenQ blockQ scopeQ upd_apply S0 argSlot lowV V.cells V.isAgg V.fits V.part partOk plains St.ret retSV svOf svsOf retQ retP retAll retOne uL_length uL_get? uL_get St.elems retH ownIdx ownAt
attribute [local simp] RunD_none RunD_some RunD_nil RunE_any acD_v acD_call agD_tt agD_ff agD_tf agD_ft agD_tup entsOf svref SO.opds SO.writes SO.makes callEnt pureSV pureOf RV.isOwn
attribute [local simp] abin_add abin_sub abin_mul abin_quo abin_rem abin_eql abin_neq abin_lss abin_leq abin_gtr abin_geq
attribute [local simp] uL_snoc uL_set uL_take uL_drop uL_append uL_replicate uL_nil
attribute [local simp] acK_callG acD_callG St.giv gsSV gvSV retEnts ownEnts SO.still
attribute [local simp] S0G argSlotG givSV retQG retPG retAllG retOneG HObj.width V.scalar trimQ V.byte
attribute [local simp] zv V.fits fillOk fillV Z_eq
set_option maxHeartbeats 4000000 in
theorem law_ZgcdPseudo (M1 M2 : List (Bool × List Nat)) (h1 : PW (2 ^ 24) M1) (h2 : PW (2 ^ 24) M2) :
    Spec Tryz.prog f_law11_ZgcdPseudo [.sl (some 2) (zL M1), .sl (some 2) (zL M2)] (· = [.pure (.b true)]) := by
  have aw := awake11
  have sm := small11 10 2 (by omega) (by omega) [M1, M2] (by simp) (by
    intro M hM
    simp only [List.mem_cons, List.not_mem_nil, or_false] at hM
    rcases hM with rfl | rfl
    · have := h1.len; omega
    · have := h2.len; omega)
  have eL : mL [M1, M2] = [.sl (some 2) (zL M1), .sl (some 2) (zL M2)] := rfl
  rw [eL] at sm
  by_cases hs : smB 10 2 [M1, M2] = true
  · have ra := ld_rd (w := 2) (n := 10) (i := 4) (by omega) (by omega) h1.each (small_of hs (by simp))
    have rb := ld_rd (w := 2) (n := 10) (i := 4) (by omega) (by omega) h2.each (small_of hs (by simp))
    rw [hs] at sm
    obtain ⟨a, ea⟩ : ∃ a, a = piL M1 := ⟨_, rfl⟩
    obtain ⟨b, eb⟩ : ∃ a, a = piL M2 := ⟨_, rfl⟩
    rw [← ea] at ra
    rw [← eb] at rb
    clear ea eb hs
    obtain ⟨A, eA⟩ : ∃ A, A = zL M1 := ⟨_, rfl⟩
    obtain ⟨B, eB⟩ : ∃ A, A = zL M2 := ⟨_, rfl⟩
    rw [← eA] at ra sm ⊢
    rw [← eB] at rb sm ⊢
    clear eA eB eL h1 h2 M1 M2
    have la := ra.ld
    have lb := rb.ld
    have hnn : ∀ n, n ≤ 17 → n * 2 ^ 4 + 2 ^ 4 + n * (2 ^ 4 + 1) + 1 ≤ 2 ^ 10 := fun n hn => by omega
    have tla := (ld_tr la).len
    have tlb := (ld_tr lb).len
    have ps := gpseudo ra.isp rb.isp (by have := ra.len; omega) (by have := rb.len; omega) (fun n hn => by have := hnn n (by omega); omega)
    have pr := rpseudo11 ra.isp rb.isp (by have := ra.len; omega) (by have := rb.len; omega) (fun n hn => by have := hnn n (by omega); omega)
    have key : ∃ (q r : List Int) (e : Int), pseR a b = [.pure (.sl (some 2) (PZ q)), .pure (.sl (some 2) (PZ r)), .pure (.i .i64 e)] ∧ Ld 10 q ∧ Ld 10 r := by
      rw [pseR]
      by_cases h0 : tr b = []
      · rw [if_pos h0]
        have l0 : Ld 10 [] := ⟨fun i => by rw [cf_nil, zlen_zero]; omega, by simp⟩
        exact ⟨[], [], 3, rfl, l0, l0⟩
      · rw [if_neg h0]
        have pst := psD_tr (a := a) h0
        obtain ⟨m1, m2, m3, m4⟩ := psD_lim (pl_tr la.pl) (tr_tr a) (pl_tr lb.pl) (tr_tr b) h0 rfl
        rw [← pst.1] at m2 m3
        rw [← pst.2] at m1 m4
        have hk := hnn ((tr a).length + 1 - (tr b).length) (by omega)
        exact ⟨_, _, 0, rfl, ⟨m2.mono (by omega), by omega⟩, ⟨m1.mono (by omega), by omega⟩⟩
    obtain ⟨q, r, e, he, lq, lr⟩ := key
    rw [he] at ps pr
    have s1 := same11 lq (by omega)
    have s2 := same11 lr (by omega)
    obtain ⟨Q, hQ⟩ : ∃ Q, Q = PZ q := ⟨_, rfl⟩
    rw [← hQ] at ps pr s1
    obtain ⟨R, hR⟩ : ∃ Q, Q = PZ r := ⟨_, rfl⟩
    rw [← hR] at ps pr s2
    refine spec_at Tryz.func5 ok_law11_ZgcdPseudo [] rfl (by simp) ?_
    unfold sc_law11_ZgcdPseudo
    refine WS_seq (WS_reg [] ?_); simp
    refine WS_seq (WS_reg [] ?_); simp
    refine callK aw ?_; simp
    refine WS_seq (WS_seq (WS_reg [] ?_)); simp
    refine callK sm ?_; simp
    refine WS_cond (t := false) (by simp) (fun h => by cases h) (fun _ => ?_)
    refine WS_skip ?_; simp
    refine WS_seq (WS_reg [] ?_); simp
    refine callK ps ?_; simp
    refine WS_seq (WS_reg [] ?_); simp
    refine callK pr ?_; simp
    refine WS_seq (WS_reg [] ?_); simp
    refine callK s1 ?_; simp
    refine callK s2 ?_; simp
    refine WS_ret ?_; simp
  · have hs' : smB 10 2 [M1, M2] = false := by simpa using hs
    rw [hs'] at sm
    refine spec_at Tryz.func5 ok_law11_ZgcdPseudo [] rfl (by simp) ?_
    unfold sc_law11_ZgcdPseudo
    refine WS_seq (WS_reg [] ?_); simp
    refine WS_seq (WS_reg [] ?_); simp
    refine callK aw ?_; simp
    refine WS_seq (WS_seq (WS_reg [] ?_)); simp
    refine callK sm ?_; simp
    refine WS_cond (t := true) (by simp) (fun _ => ?_) (fun h => by cases h)
    refine WS_seq (WS_reg [] ?_); simp
    refine WS_ret ?_; simp
set_option maxHeartbeats 4000000 in
theorem law_ZgcdGcds (M1 M2 : List (Bool × List Nat)) (h1 : PW (2 ^ 24) M1) (h2 : PW (2 ^ 24) M2) :
    Spec Tryz.prog f_law11_ZgcdGcds [.sl (some 2) (zL M1), .sl (some 2) (zL M2)] (· = [.pure (.b true)]) := by
  have aw := awake11
  have sm := small11 9 2 (by omega) (by omega) [M1, M2] (by simp) (by
    intro M hM
    simp only [List.mem_cons, List.not_mem_nil, or_false] at hM
    rcases hM with rfl | rfl
    · have := h1.len; omega
    · have := h2.len; omega)
  have eL : mL [M1, M2] = [.sl (some 2) (zL M1), .sl (some 2) (zL M2)] := rfl
  rw [eL] at sm
  by_cases hs : smB 9 2 [M1, M2] = true
  · obtain ⟨ia, al⟩ := isP_small h1.each (small_of hs (M := M1) (by simp))
    obtain ⟨ib, bl⟩ := isP_small h2.each (small_of hs (M := M2) (by simp))
    rw [hs] at sm
    have g1 := own_plain (ggcd (k0 := 2) (L := 9) ia ib al bl (by omega) (by decide))
    have g2 := own_plain (rgcd11 (k0 := 2) (L := 9) ia ib al bl (by omega) (by decide) (by decide))
    obtain ⟨p1, p2⟩ := gdZ_pl (L := 9) ia.pl ib.pl (by have := ia.len; omega) (by have := ib.len; omega)
    have s1 := same11 (i := 20) ⟨p1.mono (by decide), by omega⟩ (by omega)
    obtain ⟨G, hG⟩ : ∃ G, G = PZ (tr (gdZ (piL M1) (piL M2))) := ⟨_, rfl⟩
    rw [← hG] at g1 g2 s1
    refine spec_at Tryz.func6 ok_law11_ZgcdGcds [] rfl (by simp) ?_
    unfold sc_law11_ZgcdGcds
    refine WS_seq (WS_reg [] ?_); simp
    refine WS_seq (WS_reg [] ?_); simp
    refine callK aw ?_; simp
    refine WS_seq (WS_seq (WS_reg [] ?_)); simp
    refine callK sm ?_; simp
    refine WS_cond (t := false) (by simp) (fun h => by cases h) (fun _ => ?_)
    refine WS_skip ?_; simp
    refine WS_seq (WS_reg [] ?_); simp
    refine callK g1 ?_; simp
    refine callK g2 ?_; simp
    refine callK s1 ?_; simp
    refine WS_ret ?_; simp
  · have hs' : smB 9 2 [M1, M2] = false := by simpa using hs
    rw [hs'] at sm
    refine spec_at Tryz.func6 ok_law11_ZgcdGcds [] rfl (by simp) ?_
    unfold sc_law11_ZgcdGcds
    refine WS_seq (WS_reg [] ?_); simp
    refine WS_seq (WS_reg [] ?_); simp
    refine callK aw ?_; simp
    refine WS_seq (WS_seq (WS_reg [] ?_)); simp
    refine callK sm ?_; simp
    refine WS_cond (t := true) (by simp) (fun _ => ?_) (fun h => by cases h)
    refine WS_seq (WS_reg [] ?_); simp
    refine WS_ret ?_; simp
end Go.Vw

