/- The contracts of the laws of layer 10 and 11. -/
import Derived.Test.YtelkndcchjhgcaaMA
import Derived.Test.YtelkndcchjhgcaaMB
import Derived.Test.YtelkndcchjhgcaaMC
import Derived.Test.YtelkndcchjhgcaaMD
import Derived.Test.YtelkndcchjhgcaaME
import Derived.Test.YtelkndcchjhgcaaMF
import Derived.Test.YtelkndcchjhgcaaMG
import Derived.Test.YtelkndcchjhgcaaMP
set_option linter.unusedVariables false
set_option linter.unusedSimpArgs false
namespace Go.Vw
open Go.Proofs Go.Py

attribute [local simp] RunL_cons RunL_nil AOp_none AOp_some acK_v acK_call agK_tt agK_ff agK_tf agK_ft agK_tup agK_i aop aun St.ev St.heap St.put thenQ blockQ scopeQ upd_apply S0 argSlot lowV V.cells V.isAgg V.fits V.part partOk plains St.ret retSV svOf svsOf retQ retP retAll retOne uL_length uL_get? uL_get St.elems retH ownIdx ownAt
attribute [local simp] RunD_none RunD_some RunD_nil RunE_any acD_v acD_call agD_tt agD_ff agD_tf agD_ft agD_tup entsOf svref SO.opds SO.writes SO.makes callEnt pureSV pureOf RV.isOwn
attribute [local simp] abin_add abin_sub abin_mul abin_quo abin_rem abin_eql abin_neq abin_lss abin_leq abin_gtr abin_geq
attribute [local simp] uL_snoc uL_set uL_take uL_drop uL_append uL_replicate uL_nil
attribute [local simp] acK_callG acD_callG St.giv gsSV gvSV retEnts ownEnts SO.still
attribute [local simp] S0G argSlotG givSV retQG retPG retAllG retOneG HObj.width V.scalar trimQ V.byte
attribute [local simp] zv V.fits fillOk fillV Z_eq
end Go.Vw
namespace Go.Vw
open Go.Proofs Go.Py

attribute [local simp] RunL_cons RunL_nil AOp_none AOp_some acK_v acK_call agK_tt agK_ff agK_tf agK_ft agK_tup agK_i aop aun St.ev St.heap St.put thenQ blockQ scopeQ upd_apply S0 argSlot lowV V.cells V.isAgg V.fits V.part partOk plains St.ret retSV svOf svsOf retQ retP retAll retOne uL_length uL_get? uL_get St.elems retH ownIdx ownAt
attribute [local simp] RunD_none RunD_some RunD_nil RunE_any acD_v acD_call agD_tt agD_ff agD_tf agD_ft agD_tup entsOf svref SO.opds SO.writes SO.makes callEnt pureSV pureOf RV.isOwn
attribute [local simp] abin_add abin_sub abin_mul abin_quo abin_rem abin_eql abin_neq abin_lss abin_leq abin_gtr abin_geq
attribute [local simp] uL_snoc uL_set uL_take uL_drop uL_append uL_replicate uL_nil
attribute [local simp] acK_callG acD_callG St.giv gsSV gvSV retEnts ownEnts SO.still
attribute [local simp] S0G argSlotG givSV retQG retPG retAllG retOneG HObj.width V.scalar trimQ V.byte
attribute [local simp] zv V.fits fillOk fillV Z_eq
end Go.Vw
namespace Go.Vw
open Go.Proofs Go.Py

attribute [local simp] RunL_cons RunL_nil AOp_none AOp_some acK_v acK_call agK_tt agK_ff agK_tf agK_ft agK_tup agK_i aop aun St.ev St.heap St.put thenQ blockQ scopeQ upd_apply S0 argSlot lowV V.cells V.isAgg V.fits V.part partOk plains St.ret retSV svOf svsOf retQ retP retAll retOne uL_length uL_get? uL_get St.elems retH ownIdx ownAt
attribute [local simp] RunD_none RunD_some RunD_nil RunE_any acD_v acD_call agD_tt agD_ff agD_tf agD_ft agD_tup entsOf svref SO.opds SO.writes SO.makes callEnt pureSV pureOf RV.isOwn
attribute [local simp] abin_add abin_sub abin_mul abin_quo abin_rem abin_eql abin_neq abin_lss abin_leq abin_gtr abin_geq
attribute [local simp] uL_snoc uL_set uL_take uL_drop uL_append uL_replicate uL_nil
attribute [local simp] acK_callG acD_callG St.giv gsSV gvSV retEnts ownEnts SO.still
attribute [local simp] S0G argSlotG givSV retQG retPG retAllG retOneG HObj.width V.scalar trimQ V.byte
attribute [local simp] zv V.fits fillOk fillV Z_eq
end Go.Vw
namespace Go.Vw
open Go.Proofs Go.Py

end Go.Vw
namespace Go.Vw
open Go.Proofs Go.Py

attribute [local simp] RunL_cons RunL_nil AOp_none AOp_some acK_v acK_call agK_tt agK_ff agK_tf agK_ft agK_tup agK_i aop aun St.ev St.heap St.put thenQ blockQ scopeQ upd_apply S0 argSlot lowV V.cells V.isAgg V.fits V.part partOk plains St.ret retSV svOf svsOf retQ retP retAll retOne uL_length uL_get? uL_get St.elems retH ownIdx ownAt
attribute [local simp] RunD_none RunD_some RunD_nil RunE_any acD_v acD_call agD_tt agD_ff agD_tf agD_ft agD_tup entsOf svref SO.opds SO.writes SO.makes callEnt pureSV pureOf RV.isOwn
attribute [local simp] abin_add abin_sub abin_mul abin_quo abin_rem abin_eql abin_neq abin_lss abin_leq abin_gtr abin_geq
attribute [local simp] uL_snoc uL_set uL_take uL_drop uL_append uL_replicate uL_nil
attribute [local simp] acK_callG acD_callG St.giv gsSV gvSV retEnts ownEnts SO.still
attribute [local simp] S0G argSlotG givSV retQG retPG retAllG retOneG HObj.width V.scalar trimQ V.byte
attribute [local simp] zv V.fits fillOk fillV Z_eq
end Go.Vw
namespace Go.Vw
open Go.Proofs Go.Py

attribute [local simp] RunL_cons RunL_nil AOp_none AOp_some acK_v acK_call agK_tt agK_ff agK_tf agK_ft agK_tup agK_i aop aun St.ev St.heap St.put thenQ blockQ scopeQ upd_apply S0 argSlot lowV V.cells V.isAgg V.fits V.part partOk plains St.ret retSV svOf svsOf retQ retP retAll retOne uL_length uL_get? uL_get St.elems retH ownIdx ownAt
attribute [local simp] RunD_none RunD_some RunD_nil RunE_any acD_v acD_call agD_tt agD_ff agD_tf agD_ft agD_tup entsOf svref SO.opds SO.writes SO.makes callEnt pureSV pureOf RV.isOwn
attribute [local simp] abin_add abin_sub abin_mul abin_quo abin_rem abin_eql abin_neq abin_lss abin_leq abin_gtr abin_geq
attribute [local simp] uL_snoc uL_set uL_take uL_drop uL_append uL_replicate uL_nil
attribute [local simp] acK_callG acD_callG St.giv gsSV gvSV retEnts ownEnts SO.still
attribute [local simp] S0G argSlotG givSV retQG retPG retAllG retOneG HObj.width V.scalar trimQ V.byte
attribute [local simp] zv V.fits fillOk fillV Z_eq
end Go.Vw
namespace Go.Vw
open Go.Proofs Go.Py

attribute [local simp] RunL_cons RunL_nil AOp_none AOp_some acK_v acK_call agK_tt agK_ff agK_tf agK_ft agK_tup agK_i aop aun St.ev St.heap St.put thenQ blockQ scopeQ upd_apply S0 argSlot lowV V.cells V.isAgg V.fits V.part partOk plains St.ret retSV svOf svsOf retQ retP retAll retOne uL_length uL_get? uL_get St.elems retH ownIdx ownAt
attribute [local simp] RunD_none RunD_some RunD_nil RunE_any acD_v acD_call agD_tt agD_ff agD_tf agD_ft agD_tup entsOf svref SO.opds SO.writes SO.makes callEnt pureSV pureOf RV.isOwn
attribute [local simp] abin_add abin_sub abin_mul abin_quo abin_rem abin_eql abin_neq abin_lss abin_leq abin_gtr abin_geq
attribute [local simp] uL_snoc uL_set uL_take uL_drop uL_append uL_replicate uL_nil
attribute [local simp] acK_callG acD_callG St.giv gsSV gvSV retEnts ownEnts SO.still
attribute [local simp] S0G argSlotG givSV retQG retPG retAllG retOneG HObj.width V.scalar trimQ V.byte
attribute [local simp] zv V.fits fillOk fillV Z_eq
end Go.Vw
namespace Go.Vw
open Go.Proofs Go.Py

attribute [local simp] RunL_cons RunL_nil AOp_none AOp_some acK_v acK_call agK_tt agK_ff agK_tf agK_ft agK_tup agK_i aop aun St.ev St.heap St.put thenQ blockQ scopeQ upd_apply S0 argSlot lowV V.cells V.isAgg V.fits V.part partOk plains St.ret retSV svOf svsOf retQ retP retAll retOne uL_length uL_get? uL_get St.elems retH ownIdx ownAt
attribute [local simp] RunD_none RunD_some RunD_nil RunE_any acD_v acD_call agD_tt agD_ff agD_tf agD_ft agD_tup entsOf svref SO.opds SO.writes SO.makes callEnt pureSV pureOf RV.isOwn
attribute [local simp] abin_add abin_sub abin_mul abin_quo abin_rem abin_eql abin_neq abin_lss abin_leq abin_gtr abin_geq
attribute [local simp] uL_snoc uL_set uL_take uL_drop uL_append uL_replicate uL_nil
attribute [local simp] acK_callG acD_callG St.giv gsSV gvSV retEnts ownEnts SO.still
attribute [local simp] S0G argSlotG givSV retQG retPG retAllG retOneG HObj.width V.scalar trimQ V.byte
attribute [local simp] zv V.fits fillOk fillV Z_eq
end Go.Vw
namespace Go.Vw
open Go.Proofs Go.Py

attribute [local simp] RunL_cons RunL_nil AOp_none AOp_some acK_v acK_call agK_tt agK_ff agK_tf agK_ft agK_tup agK_i aop aun St.ev St.heap St.put thenQ blockQ scopeQ upd_apply S0 argSlot lowV V.cells V.isAgg V.fits V.part partOk plains St.ret retSV svOf svsOf retQ retP retAll retOne uL_length uL_get? uL_get St.elems retH ownIdx ownAt
attribute [local simp] RunD_none RunD_some RunD_nil RunE_any acD_v acD_call agD_tt agD_ff agD_tf agD_ft agD_tup entsOf svref SO.opds SO.writes SO.makes callEnt pureSV pureOf RV.isOwn
attribute [local simp] abin_add abin_sub abin_mul abin_quo abin_rem abin_eql abin_neq abin_lss abin_leq abin_gtr abin_geq
attribute [local simp] uL_snoc uL_set uL_take uL_drop uL_append uL_replicate uL_nil
attribute [local simp] acK_callG acD_callG St.giv gsSV gvSV retEnts ownEnts SO.still
attribute [local simp] S0G argSlotG givSV retQG retPG retAllG retOneG HObj.width V.scalar trimQ V.byte
attribute [local simp] zv V.fits fillOk fillV Z_eq
end Go.Vw
namespace Go.Vw
open Go.Proofs Go.Py

attribute [local simp] RunL_cons RunL_nil AOp_none AOp_some acK_v acK_call agK_tt agK_ff agK_tf agK_ft agK_tup agK_i aop aun St.ev St.heap St.put thenQ blockQ scopeQ upd_apply S0 argSlot lowV V.cells V.isAgg V.fits V.part partOk plains St.ret retSV svOf svsOf retQ retP retAll retOne uL_length uL_get? uL_get St.elems retH ownIdx ownAt
attribute [local simp] RunD_none RunD_some RunD_nil RunE_any acD_v acD_call agD_tt agD_ff agD_tf agD_ft agD_tup entsOf svref SO.opds SO.writes SO.makes callEnt pureSV pureOf RV.isOwn
attribute [local simp] abin_add abin_sub abin_mul abin_quo abin_rem abin_eql abin_neq abin_lss abin_leq abin_gtr abin_geq
attribute [local simp] uL_snoc uL_set uL_take uL_drop uL_append uL_replicate uL_nil
attribute [local simp] acK_callG acD_callG St.giv gsSV gvSV retEnts ownEnts SO.still
attribute [local simp] S0G argSlotG givSV retQG retPG retAllG retOneG HObj.width V.scalar trimQ V.byte
attribute [local simp] zv V.fits fillOk fillV Z_eq
end Go.Vw
namespace Go.Vw
open Go.Proofs Go.Py

attribute [local simp] RunL_cons RunL_nil AOp_none AOp_some acK_v acK_call agK_tt agK_ff agK_tf agK_ft agK_tup agK_i aop aun St.ev St.heap St.put thenQ blockQ scopeQ upd_apply S0 argSlot lowV V.cells V.isAgg V.fits V.part partOk plains St.ret retSV svOf svsOf retQ retP retAll retOne uL_length uL_get? uL_get St.elems retH ownIdx ownAt
attribute [local simp] RunD_none RunD_some RunD_nil RunE_any acD_v acD_call agD_tt agD_ff agD_tf agD_ft agD_tup entsOf svref SO.opds SO.writes SO.makes callEnt pureSV pureOf RV.isOwn
attribute [local simp] abin_add abin_sub abin_mul abin_quo abin_rem abin_eql abin_neq abin_lss abin_leq abin_gtr abin_geq
attribute [local simp] uL_snoc uL_set uL_take uL_drop uL_append uL_replicate uL_nil
attribute [local simp] acK_callG acD_callG St.giv gsSV gvSV retEnts ownEnts SO.still
attribute [local simp] S0G argSlotG givSV retQG retPG retAllG retOneG HObj.width V.scalar trimQ V.byte
attribute [local simp] zv V.fits fillOk fillV Z_eq
set_option maxHeartbeats 1000000 in
theorem small11 (n w : Nat) (hn : n ≤ 2 ^ 40) (hw : w ≤ 2 ^ 40) (Ms : List (List (Bool × List Nat))) (hM : Ms.length ≤ 2 ^ 40) (hMs : ∀ M ∈ Ms, M.length ≤ 2 ^ 40) : Spec Try.prog f_law11_small [.i .i64 (n : Int), .i .i64 (w : Int), .sl none (mL Ms)] (· = [.pure (.b (smB n w Ms))]) := by
  have hml : (mL Ms).length = Ms.length := by simp [mL]
  refine spec_at Try.func37 ok_law11_small [] rfl (by simp) ?_
  unfold sc_law11_small
  refine WS_seq (WS_reg [] ?_); simp
  refine WS_seq (WS_seq (WS_reg [] ?_)); simp
  refine WS_block ?_
  refine WS_loop (SmS n w Ms) (fun S => Ms.length - nM 7 S) ⟨0, by omega, rfl, rfl, rfl, rfl, rfl⟩ ?_
  rintro S ⟨i, hi, s0, s1, s2, s7, hall⟩
  have d7 := nM_eq s7
  by_cases hlt : i < Ms.length
  · have hltI : (i : Int) < (Ms.length : Int) := by omega
    have hml2 : i < (mL Ms).length := by omega
    have hget : (mL Ms)[i] = .sl (some 2) (zL Ms[i]) := by simp [mL]
    have hmem := List.getElem_mem hlt
    have htk := List.take_succ_eq_append_getElem hlt
    obtain ⟨M, hMe⟩ : ∃ M, M = Ms[i] := ⟨_, rfl⟩
    rw [← hMe] at hget hmem htk
    have hMl := hMs M hmem
    have hzl : (zL M).length = M.length := by simp [zL]
    have wi := i64_succ i (by omega)
    obtain ⟨O, hO⟩ : ∃ O, O = mL Ms := ⟨_, rfl⟩
    have hOl : i < O.length := by rw [hO]; omega
    have hg2 : O[i] = .sl (some 2) (zL M) := by simp only [hO]; exact hget
    rw [← hO] at hml s2
    by_cases hb : M.length ≤ n
    · have hbI : ¬ (n : Int) < (M.length : Int) := by omega
      refine WS_seq (WS_seq (WS_reg [] ?_)); simp [s0, s1, s2, s7, hlt, hltI, hml, hg2, hzl, hbI]
      refine WS_cond (t := true) (by simp [s0, s1, s2, s7, hlt, hltI, hml, hg2, hzl, hbI]) (fun _ => ?_) (fun h => by cases h)
      refine WS_skip ?_; simp [s0, s1, s2, s7, hlt, hltI, hml, hg2, hzl, hbI]
      refine WS_seq (WS_block (WS_seq (WS_seq (WS_reg [] ?_)))); simp [s0, s1, s2, s7, hlt, hltI, hml, hg2, hzl, hbI]
      refine WS_cond (t := false) (by simp [s0, s1, s2, s7, hlt, hltI, hml, hg2, hzl, hbI]) (fun h => by cases h) (fun _ => ?_)
      refine WS_skip ?_; simp [s0, s1, s2, s7, hlt, hltI, hml, hg2, hzl, hbI]
      refine WS_seq (WS_reg [] ?_); simp [s0, s1, s2, s7, hlt, hltI, hml, hg2, hzl, hbI]
      refine WS_block ?_
      refine WS_loop (SmJ n w Ms i M) (fun S => M.length - nM 8 S) ⟨0, by omega, by simp, rfl, by simp [s0], by simp [s1], by simp [s2, hO], by simp [s7], hall⟩ ?_
      clear s0 s1 s2 s7
      rintro S' ⟨k, hk, s8, hr, s0, s1, s2, s7, -⟩
      have d8 := nM_eq s8
      rw [← hO] at s2
      by_cases hlt2 : k < M.length
      · have hltI2 : (k : Int) < (M.length : Int) := by omega
        have hzk : k < (zL M).length := by omega
        have hgk : (zL M)[k] = .agg [.b M[k].1, .sl none (uL M[k].2)] := by simp [zL]
        have htk2 := List.take_succ_eq_append_getElem hlt2
        have hmem2 := List.getElem_mem hlt2
        obtain ⟨p, hp⟩ : ∃ p, p = M[k] := ⟨_, rfl⟩
        rw [← hp] at hgk htk2 hmem2
        have wk := i64_succ k (by omega)
        obtain ⟨Z1, hZ1⟩ : ∃ O, O = zL M := ⟨_, rfl⟩
        have hZl : k < Z1.length := by rw [hZ1]; omega
        have hg3 : Z1[k] = .agg [.b p.1, .sl none (uL p.2)] := by simp only [hZ1]; exact hgk
        rw [← hZ1] at hzl hg2
        by_cases hq : p.2.length ≤ w
        · have hqI : ¬ (w : Int) < (p.2.length : Int) := by omega
          refine WS_seq (WS_seq (WS_reg [] ?_)); simp [s0, s1, s2, s7, s8, hlt, hltI, hlt2, hltI2, hml, hg2, hzl, hg3, hqI, wk]
          refine WS_cond (t := true) (by simp [s0, s1, s2, s7, s8, hlt, hltI, hlt2, hltI2, hml, hg2, hzl, hg3, hqI, wk]) (fun _ => ?_) (fun h => by cases h)
          refine WS_skip ?_; simp [s0, s1, s2, s7, s8, hlt, hltI, hlt2, hltI2, hml, hg2, hzl, hg3, hqI, wk]
          refine WS_seq (WS_block (WS_seq (WS_reg [] ?_))); simp [s0, s1, s2, s7, s8, hlt, hltI, hlt2, hltI2, hml, hg2, hzl, hg3, hqI, wk]
          refine WS_cond (t := false) (by simp [s0, s1, s2, s7, s8, hlt, hltI, hlt2, hltI2, hml, hg2, hzl, hg3, hqI, wk]) (fun h => by cases h) (fun _ => ?_)
          refine WS_skip ?_; simp [s0, s1, s2, s7, s8, hlt, hltI, hlt2, hltI2, hml, hg2, hzl, hg3, hqI, wk]
          refine WS_reg [] ?_; simp [s0, s1, s2, s7, s8, hlt, hltI, hlt2, hltI2, hml, hg2, hzl, hg3, hqI, wk]
          refine ⟨⟨k + 1, by omega, by simp, by rw [htk2]; exact smR_snoc hr hq, by simp [s0], by simp [s1], by simp [s2, hO], by simp [s7], hall⟩, ?_⟩
          show M.length - nM 8 _ < M.length - nM 8 S'
          rw [d8, nM_eq (i := 8) (n := k + 1) (by simp)]
          omega
        · have hqI : (w : Int) < (p.2.length : Int) := by omega
          have hno : smR w M = false := by
            rw [smR, List.all_eq_false]
            exact ⟨p, hmem2, by simp; omega⟩
          rw [smB_false hmem (by rw [hno, Bool.and_false])]
          refine WS_seq (WS_seq (WS_reg [] ?_)); simp [s0, s1, s2, s7, s8, hlt, hltI, hlt2, hltI2, hml, hg2, hzl, hg3, hqI, wk]
          refine WS_cond (t := true) (by simp [s0, s1, s2, s7, s8, hlt, hltI, hlt2, hltI2, hml, hg2, hzl, hg3, hqI, wk]) (fun _ => ?_) (fun h => by cases h)
          refine WS_skip ?_; simp [s0, s1, s2, s7, s8, hlt, hltI, hlt2, hltI2, hml, hg2, hzl, hg3, hqI, wk]
          refine WS_seq (WS_block (WS_seq (WS_reg [] ?_))); simp [s0, s1, s2, s7, s8, hlt, hltI, hlt2, hltI2, hml, hg2, hzl, hg3, hqI, wk]
          refine WS_cond (t := true) (by simp [s0, s1, s2, s7, s8, hlt, hltI, hlt2, hltI2, hml, hg2, hzl, hg3, hqI, wk]) (fun _ => ?_) (fun h => by cases h)
          refine WS_seq (WS_reg [] ?_); simp [s0, s1, s2, s7, s8, hlt, hltI, hlt2, hltI2, hml, hg2, hzl, hg3, hqI, wk]
          refine WS_ret ?_; simp [s0, s1, s2, s7, s8, hlt, hltI, hlt2, hltI2, hml, hg2, hzl, hg3, hqI, wk]
      · obtain rfl : k = M.length := by omega
        have hltI2 : ¬ (M.length : Int) < (M.length : Int) := by omega
        rw [List.take_length] at hr
        refine WS_seq (WS_seq (WS_reg [] ?_)); simp [s0, s1, s2, s7, s8, hlt, hltI, hltI2, hml, hg2, hzl, wi]
        refine WS_cond (t := false) (by simp [s0, s1, s2, s7, s8, hlt, hltI, hltI2, hml, hg2, hzl, wi]) (fun h => by cases h) (fun _ => ?_)
        refine WS_exit ?_; simp [s0, s1, s2, s7, s8, hlt, hltI, hltI2, hml, hg2, hzl, wi]
        refine WS_reg [] ?_; simp [s0, s1, s2, s7, s8, hlt, hltI, hltI2, hml, hg2, hzl, wi]
        refine ⟨⟨i + 1, by omega, by simp [s0], by simp [s1], by simp [s2, hO], by simp, by rw [htk]; exact smB_snoc hall hb hr⟩, ?_⟩
        show Ms.length - nM 7 _ < Ms.length - nM 7 S
        rw [d7, nM_eq (i := 7) (n := i + 1) (by simp)]
        omega
    · have hbI : (n : Int) < (M.length : Int) := by omega
      rw [smB_false hmem (by simp; omega)]
      refine WS_seq (WS_seq (WS_reg [] ?_)); simp [s0, s1, s2, s7, hlt, hltI, hml, hg2, hzl, hbI]
      refine WS_cond (t := true) (by simp [s0, s1, s2, s7, hlt, hltI, hml, hg2, hzl, hbI]) (fun _ => ?_) (fun h => by cases h)
      refine WS_skip ?_; simp [s0, s1, s2, s7, hlt, hltI, hml, hg2, hzl, hbI]
      refine WS_seq (WS_block (WS_seq (WS_seq (WS_reg [] ?_)))); simp [s0, s1, s2, s7, hlt, hltI, hml, hg2, hzl, hbI]
      refine WS_cond (t := true) (by simp [s0, s1, s2, s7, hlt, hltI, hml, hg2, hzl, hbI]) (fun _ => ?_) (fun h => by cases h)
      refine WS_seq (WS_reg [] ?_); simp [s0, s1, s2, s7, hlt, hltI, hml, hg2, hzl, hbI]
      refine WS_ret ?_; simp [s0, s1, s2, s7, hlt, hltI, hml, hg2, hzl, hbI]
  · obtain rfl : i = Ms.length := by omega
    have hltI : ¬ (Ms.length : Int) < (Ms.length : Int) := by omega
    rw [List.take_length] at hall
    rw [hall]
    refine WS_seq (WS_seq (WS_reg [] ?_)); simp [s0, s1, s2, s7, hltI, hml]
    refine WS_cond (t := false) (by simp [s0, s1, s2, s7, hltI, hml]) (fun h => by cases h) (fun _ => ?_)
    refine WS_exit ?_; simp [s0, s1, s2, s7, hltI, hml]
    refine WS_seq (WS_reg [] ?_); simp [s0, s1, s2, s7, hltI, hml]
    refine WS_ret ?_; simp [s0, s1, s2, s7, hltI, hml]
theorem same11 {i : Nat} {l : List Int} (h : Ld i l) (hi : i ≤ 40) : Spec Try.prog f_law11_same [.sl (some 2) (PZ l), .sl (some 2) (PZ l)] (· = [.pure (.b true)]) := by
  have sm := psame l (h.pl40 hi) (h.len40 hi)
  obtain ⟨O, hO⟩ : ∃ O, O = PZ l := ⟨_, rfl⟩
  rw [← hO] at sm ⊢
  refine spec_at Try.func39 ok_law11_same [] rfl (by simp) ?_
  unfold sc_law11_same
  refine WS_seq (WS_reg [] ?_); simp
  refine WS_seq (WS_reg [] ?_); simp
  refine callK sm ?_; simp
  refine WS_ret ?_; simp
theorem awake11 : Spec Try.prog f_law11_awake [] (· = [.pure (.b true)]) := by
  have s1 : Sml [-2, 0, 1] := by decide
  have s2 : Sml [-3, 0, 1] := by decide
  have s3 : Sml [-4, 0, 4] := by decide
  have s4 : Sml [6, 6] := by decide
  have s5 : Sml [2, 2] := by decide
  have o1 := ofc s1 (by decide) (by decide)
  have o2 := ofc s2 (by decide) (by decide)
  have o3 := ofc s3 (by decide) (by decide)
  have o4 := ofc s4 (by decide) (by decide)
  have o5 := ofc s5 (by decide) (by decide)
  have rs := res_awake
  have gc := own_plain (ggcd (L := 3) (isP_PZ (pl_small s3)) (isP_PZ (pl_small s4)) (by rw [PZ_length]; decide) (by rw [PZ_length]; decide) (by decide) (by decide))
  rw [show tr (gdZ [-4, 0, 4] [6, 6]) = [2, 2] by rw [gdZ, gdL_step (by decide), gdL_nil (by decide)]; decide] at gc
  have tt := ztext (k := 1) (isZ_Z (z := 1) (zlen_small (by decide))) (by omega)
  rw [show zT 1 = [49] by rw [zT, if_neg (by omega)]; decide +kernel] at tt
  have sm := same11 (i := 2) (l := [2, 2]) ⟨(pl_small s5).mono (by decide), by decide⟩ (by omega)
  have l5 : (PZ [2, 2]).length = 2 := by rw [PZ_length]; rfl
  obtain ⟨A1, h1⟩ : ∃ A, A = PZ [-2, 0, 1] := ⟨_, rfl⟩
  obtain ⟨A2, h2⟩ : ∃ A, A = PZ [-3, 0, 1] := ⟨_, rfl⟩
  obtain ⟨A3, h3⟩ : ∃ A, A = PZ [-4, 0, 4] := ⟨_, rfl⟩
  obtain ⟨A4, h4⟩ : ∃ A, A = PZ [6, 6] := ⟨_, rfl⟩
  obtain ⟨A5, h5⟩ : ∃ A, A = PZ [2, 2] := ⟨_, rfl⟩
  rw [← h1] at o1 rs
  rw [← h2] at o2 rs
  rw [← h3] at o3 gc
  rw [← h4] at o4 gc
  rw [← h5] at o5 gc sm l5
  refine spec_at Try.func36 ok_law11_awake [] rfl (by simp) ?_
  unfold sc_law11_awake
  refine WS_seq (WS_reg [] ?_); simp [tx, abin_seql, l5]
  refine WS_seq (WS_reg [] ?_); simp [tx, abin_seql, l5]
  refine callK o1 ?_; simp [tx, abin_seql, l5]
  refine callK o2 ?_; simp [tx, abin_seql, l5]
  refine callK rs ?_; simp [tx, abin_seql, l5]
  refine WS_seq (WS_reg [] ?_); simp [tx, abin_seql, l5]
  refine callK o3 ?_; simp [tx, abin_seql, l5]
  refine callK o4 ?_; simp [tx, abin_seql, l5]
  refine callK gc ?_; simp [tx, abin_seql, l5]
  refine WS_seq (WS_reg [] ?_); simp [tx, abin_seql, l5]
  refine callK tt ?_; simp [tx, abin_seql, l5]
  refine callK o5 ?_; simp [tx, abin_seql, l5]
  refine callK sm ?_; simp [tx, abin_seql, l5]
  refine WS_ret ?_; simp [tx, abin_seql, l5]
end Go.Vw
namespace Go.Vw
open Go.Proofs Go.Py

attribute [local simp] RunL_cons RunL_nil AOp_none AOp_some acK_v acK_call agK_tt agK_ff agK_tf agK_ft agK_tup agK_i aop aun St.ev St.heap St.put thenQ blockQ scopeQ upd_apply S0 argSlot lowV V.cells V.isAgg V.fits V.part partOk plains St.ret retSV svOf svsOf retQ retP retAll retOne uL_length uL_get? uL_get St.elems retH ownIdx ownAt
attribute [local simp] RunD_none RunD_some RunD_nil RunE_any acD_v acD_call agD_tt agD_ff agD_tf agD_ft agD_tup entsOf svref SO.opds SO.writes SO.makes callEnt pureSV pureOf RV.isOwn
attribute [local simp] abin_add abin_sub abin_mul abin_quo abin_rem abin_eql abin_neq abin_lss abin_leq abin_gtr abin_geq
attribute [local simp] uL_snoc uL_set uL_take uL_drop uL_append uL_replicate uL_nil
attribute [local simp] acK_callG acD_callG St.giv gsSV gvSV retEnts ownEnts SO.still
attribute [local simp] S0G argSlotG givSV retQG retPG retAllG retOneG HObj.width V.scalar trimQ V.byte
attribute [local simp] zv V.fits fillOk fillV Z_eq
set_option maxHeartbeats 4000000 in
theorem law_ZgcdRest (M1 M2 : List (Bool × List Nat)) (h1 : PW (2 ^ 24) M1) (h2 : PW (2 ^ 24) M2) :
    Spec Try.prog f_law11_ZgcdRest [.sl (some 2) (zL M1), .sl (some 2) (zL M2)] (· = [.pure (.b true)]) := by
  have aw := awake11
  have sm := small11 10 2 (by omega) (by omega) [M1, M2] (by simp) (by
    intro M hM
    simp only [List.mem_cons, List.not_mem_nil, or_false] at hM
    rcases hM with rfl | rfl
    · have := h1.len; omega
    · have := h2.len; omega)
  have eL : mL [M1, M2] = [.sl (some 2) (zL M1), .sl (some 2) (zL M2)] := rfl
  rw [eL] at sm
  by_cases hs : smB 10 2 [M1, M2] = true
  · have ra := ld_rd (w := 2) (n := 10) (i := 4) (by omega) (by omega) h1.each (small_of hs (by simp))
    have rb := ld_rd (w := 2) (n := 10) (i := 4) (by omega) (by omega) h2.each (small_of hs (by simp))
    rw [hs] at sm
    obtain ⟨a, ea⟩ : ∃ a, a = piL M1 := ⟨_, rfl⟩
    obtain ⟨b, eb⟩ : ∃ a, a = piL M2 := ⟨_, rfl⟩
    rw [← ea] at ra
    rw [← eb] at rb
    clear ea eb hs
    obtain ⟨A, eA⟩ : ∃ A, A = zL M1 := ⟨_, rfl⟩
    obtain ⟨B, eB⟩ : ∃ A, A = zL M2 := ⟨_, rfl⟩
    rw [← eA] at ra sm ⊢
    rw [← eB] at rb sm ⊢
    clear eA eB eL h1 h2 M1 M2
    have la := ra.ld
    have lb := rb.ld
    have e1 := ynorm ra (by omega)
    have e2 := ynorm rb (by omega)
    have hnn : ∀ n, n ≤ 17 → n * 2 ^ 4 + 2 ^ 4 + n * (2 ^ 4 + 1) + 1 ≤ 2 ^ 10 := fun n hn => by omega
    have tla := (ld_tr la).len
    have tlb := (ld_tr lb).len
    have ps := gpseudo ra.isp rb.isp (by have := ra.len; omega) (by have := rb.len; omega) (fun n hn => by have := hnn n (by omega); omega)
    have xl := PZ_length (tr a)
    have yl := PZ_length (tr b)
    by_cases h0 : tr b = []
    · rw [pseR, if_pos h0] at ps
      rw [h0] at e2 yl
      obtain ⟨X, hX⟩ : ∃ X, X = PZ (tr a) := ⟨_, rfl⟩
      rw [← hX] at e1
      obtain ⟨Y, hY⟩ : ∃ X, X = PZ [] := ⟨_, rfl⟩
      rw [← hY] at e2 yl
      refine spec_at Try.func9 ok_law11_ZgcdRest [] rfl (by simp) ?_
      unfold sc_law11_ZgcdRest
      refine WS_seq (WS_reg [] ?_); simp [yl]
      refine WS_seq (WS_reg [] ?_); simp [yl]
      refine callK aw ?_; simp [yl]
      refine WS_seq (WS_seq (WS_reg [] ?_)); simp [yl]
      refine callK sm ?_; simp [yl]
      refine WS_cond (t := false) (by simp [yl]) (fun h => by cases h) (fun _ => ?_)
      refine WS_skip ?_; simp [yl]
      refine WS_seq (WS_reg [] ?_); simp [yl]
      refine callK e1 ?_; simp [yl]
      refine WS_seq (WS_reg [] ?_); simp [yl]
      refine callK e2 ?_; simp [yl]
      refine WS_seq (WS_reg [] ?_); simp [yl]
      refine callK ps ?_; simp [yl]
      refine WS_seq (WS_seq (WS_reg [] ?_)); simp [yl]
      refine WS_cond (t := true) (by simp [yl]) (fun _ => ?_) (fun h => by cases h)
      refine WS_seq (WS_reg [] ?_); simp [yl]
      refine WS_ret ?_; simp [yl]
    · rw [pseR, if_neg h0] at ps
      have tb := tr_tr b
      have ta := tr_tr a
      have pst := psD_tr (a := a) h0
      obtain ⟨m1, m2, m3, m4⟩ := psD_lim (pl_tr la.pl) ta (pl_tr lb.pl) tb h0 rfl
      rw [← pst.1] at m2 m3
      rw [← pst.2] at m1 m4
      have hps := (psD_ok (a := a) (b := b) h0).eq
      have lp := List.length_pos_iff.2 h0
      obtain ⟨n, hn⟩ : ∃ n, n = (tr a).length + 1 - (tr b).length := ⟨_, rfl⟩
      rw [← hn] at m1 m2 m3 hps
      have hnk := hnn n (by omega)
      have lq : Ld 10 (tr (psD a b).1) := ⟨m2.mono (by omega), by omega⟩
      have lr : Ld 10 (tr (psD a b).2) := ⟨m1.mono (by omega), by omega⟩
      have zl0 : zlen (ldL b) ≤ 2 ^ 4 := (ld_tr lb).pl _
      have zpl : zlen (ldL b ^ n) ≤ 2 ^ 10 := by
        have h1 := zlen_pow (ldL b) n
        have h2 := Nat.mul_le_mul_left n zl0
        omega
      have sc := yscale (ra.mono (show 4 ≤ 10 by omega)) (isZ_of (x := ldL b ^ n) (k := 2 ^ 10) zpl) (by omega)
      have mu := ymul lq.rd (rb.mono (by omega)) (by omega)
      have lmu := ld_tr (ld_mul lq (lb.mono (show 4 ≤ 10 by omega)))
      have ad := yadd lmu.rd (lr.rd.mono (by omega)) (by omega)
      have e9 : tr (addL (tr (mulL (tr (psD a b).1) b)) (tr (psD a b).2)) = tr (scL (ldL b ^ n) a) := tr_of_eqp ((eqp_addL ((cf_tr _).trans (eqp_mulL_left b (cf_tr _))) (cf_tr _)).trans hps.symm)
      rw [e9] at ad
      have lsc : Ld 11 (tr (scL (ldL b ^ n) a)) := ld_tr (ld_sc (la.mono (show 4 ≤ 10 by omega)) zpl)
      have sa := same11 lsc (by omega)
      have hg := PZ_get (tr b) ((tr b).length - 1) (by omega)
      rw [show cf (tr b) ((tr b).length - 1) = ldL b from rfl] at hg
      have rl := PZ_length (tr (psD a b).2)
      obtain ⟨m, hm⟩ : ∃ m, m = (tr b).length := ⟨_, rfl⟩
      obtain ⟨k, hk⟩ : ∃ m, m = (tr a).length := ⟨_, rfl⟩
      obtain ⟨j, hj⟩ : ∃ m, m = (tr (psD a b).2).length := ⟨_, rfl⟩
      rw [← hm] at yl hn m4 lp tlb
      rw [← hk] at xl hn tla
      rw [← hj] at rl m4
      simp only [← hm] at hg
      obtain ⟨X, hX⟩ : ∃ X, X = PZ (tr a) := ⟨_, rfl⟩
      rw [← hX] at e1 xl
      obtain ⟨Y, hY⟩ : ∃ X, X = PZ (tr b) := ⟨_, rfl⟩
      simp only [← hY] at hg
      rw [← hY] at e2 yl
      obtain ⟨W8, w8⟩ : ∃ X, X = PZ (tr (psD a b).1) := ⟨_, rfl⟩
      rw [← w8] at ps mu
      obtain ⟨W9, w9⟩ : ∃ X, X = PZ (tr (psD a b).2) := ⟨_, rfl⟩
      rw [← w9] at ps ad rl
      obtain ⟨U, hU⟩ : ∃ X, X = PZ (tr (mulL (tr (psD a b).1) b)) := ⟨_, rfl⟩
      rw [← hU] at mu ad
      obtain ⟨T, hT⟩ : ∃ X, X = PZ (tr (scL (ldL b ^ n) a)) := ⟨_, rfl⟩
      rw [← hT] at sc ad sa
      obtain ⟨l, hl⟩ : ∃ l, l = ldL b := ⟨_, rfl⟩
      rw [← hl] at hg zl0 sc
      clear hps zpl lsc lmu lr lq m1 m2 m3 e9 pst hT hU w8 w9 hnk hnn
      have mB : ((m : Int) == 0) = false := by simp; omega
      have mN : ¬ m = 0 := by omega
      have w1 : IntKind.i64.wrap ((m : Int) - 1) = (m : Int) - 1 := i64_int _ (by omega) (by omega)
      have o1 := zof 1 (by omega) (by omega)
      refine spec_at Try.func9 ok_law11_ZgcdRest [] rfl (by simp) ?_
      unfold sc_law11_ZgcdRest
      refine WS_seq (WS_reg [] ?_); simp [yl, mB, mN]
      refine WS_seq (WS_reg [] ?_); simp [yl, mB, mN]
      refine callK aw ?_; simp [yl, mB, mN]
      refine WS_seq (WS_seq (WS_reg [] ?_)); simp [yl, mB, mN]
      refine callK sm ?_; simp [yl, mB, mN]
      refine WS_cond (t := false) (by simp [yl, mB, mN]) (fun h => by cases h) (fun _ => ?_)
      refine WS_skip ?_; simp [yl, mB, mN]
      refine WS_seq (WS_reg [] ?_); simp [yl, mB, mN]
      refine callK e1 ?_; simp [yl, mB, mN]
      refine WS_seq (WS_reg [] ?_); simp [yl, mB, mN]
      refine callK e2 ?_; simp [yl, mB, mN]
      refine WS_seq (WS_reg [] ?_); simp [yl, mB, mN]
      refine callK ps ?_; simp [yl, mB, mN]
      refine WS_seq (WS_seq (WS_reg [] ?_)); simp [yl, mB, mN]
      refine WS_cond (t := false) (by simp [yl, mB, mN]) (fun h => by cases h) (fun _ => ?_)
      refine WS_skip ?_; simp [yl, mB, mN]
      refine WS_seq (WS_reg [] ?_); simp [yl, mB, mN]
      refine callK o1 ?_; simp [yl, mB, mN]
      refine WS_seq (WS_seq (WS_reg [] ?_)); simp [yl, mB, mN]
      refine WS_block ?_
      refine WS_loop (ZrS A B W8 W9 X Y 0 l m n) (fun S => m + n - nM 12 S) ⟨0, by omega, by simp, by simp, by simp, by simp, by simp, by simp, by simp, by simp, by simp, by simp, by simp⟩ ?_
      rintro S ⟨i, hi, s0, s1, s5, s6, s7, s8, s9, s10, s11, h11, s12⟩
      have d12 := nM_eq s12
      by_cases hlt : i < n
      · have hle : ((m + i : Nat) : Int) ≤ (k : Int) := by omega
        have hleN : m + i ≤ k := by omega
        have t1 : ((m : Int) - 1).toNat = m - 1 := by omega
        have i1 : (1 : Int) ≤ (m : Int) := by omega
        have i2 : m - 1 < m := by omega
        have i3 : (m : Int) - 1 < (m : Int) := by omega
        have wi := i64_succ (m + i) (by omega)
        have zi1 := zlen_pow l i
        have zi2 : i * zlen l ≤ 17 * 2 ^ 4 := Nat.mul_le_mul (by omega) zl0
        have mm := zmul (isZ_of (x := l ^ i) (k := 2 ^ 10) (by omega)) (isZ_of (x := l) (k := 2 ^ 10) (by omega)) (by omega)
        rw [← Int.pow_succ] at mm
        obtain ⟨p, hp⟩ : ∃ p, p = l ^ i := ⟨_, rfl⟩
        rw [← hp] at mm h11
        obtain ⟨p2, hp2⟩ : ∃ p, p = l ^ (i + 1) := ⟨_, rfl⟩
        rw [← hp2] at mm
        obtain ⟨M, hM⟩ : ∃ M, M = m + i := ⟨_, rfl⟩
        rw [← hM] at s12 hle hleN wi
        refine WS_seq (WS_seq (WS_reg [] ?_)); simp [s0, s1, s5, s6, s7, s8, s9, s10, s11, h11, s12, hle, hleN, xl, yl, w1, t1, i1, i2, i3, hg, wi]
        refine WS_cond (t := true) (by simp [s0, s1, s5, s6, s7, s8, s9, s10, s11, h11, s12, hle, hleN, xl, yl, w1, t1, i1, i2, i3, hg, wi]) (fun _ => ?_) (fun h => by cases h)
        refine WS_skip ?_; simp [s0, s1, s5, s6, s7, s8, s9, s10, s11, h11, s12, hle, hleN, xl, yl, w1, t1, i1, i2, i3, hg, wi]
        refine WS_seq (WS_block (WS_regD [] ?_)); simp [s0, s1, s5, s6, s7, s8, s9, s10, s11, h11, s12, hle, hleN, xl, yl, w1, t1, i1, i2, i3, hg, wi]
        refine callD mm rfl ?_; simp [s0, s1, s5, s6, s7, s8, s9, s10, s11, h11, s12, hle, hleN, xl, yl, w1, t1, i1, i2, i3, hg, wi]
        refine ⟨rfl, ?_⟩
        refine WS_reg [] ?_; simp [s0, s1, s5, s6, s7, s8, s9, s10, s11, h11, s12, hle, hleN, xl, yl, w1, t1, i1, i2, i3, hg, wi]
        refine ⟨⟨i + 1, by omega, by simp [s0], by simp [s1], by simp [s5], by simp [s6], by simp [s7], by simp [s8], by simp [s9], by simp [s10], by simp [s11], by simp [hp2], by simp [hM]; omega⟩, ?_⟩
        show m + n - nM 12 _ < m + n - nM 12 S
        rw [d12, nM_eq (i := 12) (n := M + 1) (by simp)]
        omega
      · obtain rfl : i = n := by omega
        have hle : ¬ ((m + i : Nat) : Int) ≤ (k : Int) := by omega
        have hjm : (j : Int) < (m : Int) := by omega
        obtain ⟨p, hp⟩ : ∃ p, p = l ^ i := ⟨_, rfl⟩
        rw [← hp] at sc h11
        obtain ⟨M, hM⟩ : ∃ M, M = m + i := ⟨_, rfl⟩
        rw [← hM] at s12 hle
        refine WS_seq (WS_seq (WS_reg [] ?_)); simp [s0, s1, s5, s6, s7, s8, s9, s10, s11, h11, s12, hle, xl, yl, rl, m4, hjm]
        refine WS_cond (t := false) (by simp [s0, s1, s5, s6, s7, s8, s9, s10, s11, h11, s12, hle, xl, yl, rl, m4, hjm]) (fun h => by cases h) (fun _ => ?_)
        refine WS_exit ?_; simp [s0, s1, s5, s6, s7, s8, s9, s10, s11, h11, s12, hle, xl, yl, rl, m4, hjm]
        refine WS_seq (WS_reg [] ?_); simp [s0, s1, s5, s6, s7, s8, s9, s10, s11, h11, s12, hle, xl, yl, rl, m4, hjm]
        refine callK sc ?_; simp [s0, s1, s5, s6, s7, s8, s9, s10, s11, h11, s12, hle, xl, yl, rl, m4, hjm]
        refine callK mu ?_; simp [s0, s1, s5, s6, s7, s8, s9, s10, s11, h11, s12, hle, xl, yl, rl, m4, hjm]
        refine callK ad ?_; simp [s0, s1, s5, s6, s7, s8, s9, s10, s11, h11, s12, hle, xl, yl, rl, m4, hjm]
        refine callK sa ?_; simp [s0, s1, s5, s6, s7, s8, s9, s10, s11, h11, s12, hle, xl, yl, rl, m4, hjm]
        refine WS_ret ?_; simp [s0, s1, s5, s6, s7, s8, s9, s10, s11, h11, s12, hle, xl, yl, rl, m4, hjm]
  · have hs' : smB 10 2 [M1, M2] = false := by simpa using hs
    rw [hs'] at sm
    refine spec_at Try.func9 ok_law11_ZgcdRest [] rfl (by simp) ?_
    unfold sc_law11_ZgcdRest
    refine WS_seq (WS_reg [] ?_); simp
    refine WS_seq (WS_reg [] ?_); simp
    refine callK aw ?_; simp
    refine WS_seq (WS_seq (WS_reg [] ?_)); simp
    refine callK sm ?_; simp
    refine WS_cond (t := true) (by simp) (fun _ => ?_) (fun h => by cases h)
    refine WS_seq (WS_reg [] ?_); simp
    refine WS_ret ?_; simp
end Go.Vw
namespace Go.Vw
open Go.Proofs Go.Py

attribute [local simp] RunL_cons RunL_nil AOp_none AOp_some acK_v acK_call agK_tt agK_ff agK_tf agK_ft agK_tup agK_i aop aun St.ev St.heap St.put thenQ blockQ scopeQ upd_apply S0 argSlot lowV V.cells V.isAgg V.fits V.part partOk plains St.ret retSV svOf svsOf retQ retP retAll retOne uL_length uL_get? uL_get St.elems retH ownIdx ownAt
attribute [local simp] RunD_none RunD_some RunD_nil RunE_any acD_v acD_call agD_tt agD_ff agD_tf agD_ft agD_tup entsOf svref SO.opds SO.writes SO.makes callEnt pureSV pureOf RV.isOwn
attribute [local simp] abin_add abin_sub abin_mul abin_quo abin_rem abin_eql abin_neq abin_lss abin_leq abin_gtr abin_geq
attribute [local simp] uL_snoc uL_set uL_take uL_drop uL_append uL_replicate uL_nil
attribute [local simp] acK_callG acD_callG St.giv gsSV gvSV retEnts ownEnts SO.still
attribute [local simp] S0G argSlotG givSV retQG retPG retAllG retOneG HObj.width V.scalar trimQ V.byte
attribute [local simp] zv V.fits fillOk fillV Z_eq
theorem same11_opp {u v : List Int} (h : Opp u v) (hv : tr v ≠ []) (hn : v.length ≤ 2 ^ 40) : Spec Try.prog f_law11_same [.sl (some 2) (PZ u), .sl (some 2) (PZ v)] (· = [.pure (.b false)]) := by
  have sm := psame_opp h hv hn
  obtain ⟨O, hO⟩ : ∃ O, O = PZ u := ⟨_, rfl⟩
  obtain ⟨O2, hO2⟩ : ∃ O, O = PZ v := ⟨_, rfl⟩
  rw [← hO, ← hO2] at sm ⊢
  refine spec_at Try.func39 ok_law11_same [] rfl (by simp) ?_
  unfold sc_law11_same
  refine WS_seq (WS_reg [] ?_); simp
  refine WS_seq (WS_reg [] ?_); simp
  refine callK sm ?_; simp
  refine WS_ret ?_; simp
end Go.Vw
namespace Go.Vw
open Go.Proofs Go.Py

attribute [local simp] RunL_cons RunL_nil AOp_none AOp_some acK_v acK_call agK_tt agK_ff agK_tf agK_ft agK_tup agK_i aop aun St.ev St.heap St.put thenQ blockQ scopeQ upd_apply S0 argSlot lowV V.cells V.isAgg V.fits V.part partOk plains St.ret retSV svOf svsOf retQ retP retAll retOne uL_length uL_get? uL_get St.elems retH ownIdx ownAt
attribute [local simp] RunD_none RunD_some RunD_nil RunE_any acD_v acD_call agD_tt agD_ff agD_tf agD_ft agD_tup entsOf svref SO.opds SO.writes SO.makes callEnt pureSV pureOf RV.isOwn
attribute [local simp] abin_add abin_sub abin_mul abin_quo abin_rem abin_eql abin_neq abin_lss abin_leq abin_gtr abin_geq
attribute [local simp] uL_snoc uL_set uL_take uL_drop uL_append uL_replicate uL_nil
attribute [local simp] acK_callG acD_callG St.giv gsSV gvSV retEnts ownEnts SO.still
attribute [local simp] S0G argSlotG givSV retQG retPG retAllG retOneG HObj.width V.scalar trimQ V.byte
attribute [local simp] zv V.fits fillOk fillV Z_eq
set_option maxHeartbeats 4000000 in
theorem law_ZgcdDivides (M1 M2 M3 : List (Bool × List Nat)) (h1 : PW (2 ^ 24) M1) (h2 : PW (2 ^ 24) M2) (h3 : PW (2 ^ 24) M3) :
    Spec Try.prog f_law11_ZgcdDivides [.sl (some 2) (zL M1), .sl (some 2) (zL M2), .sl (some 2) (zL M3)] (· = [.pure (.b true)]) := by
  have aw := awake11
  have sm := small11 6 1 (by omega) (by omega) [M1, M2, M3] (by simp) (by
    intro M hM
    simp only [List.mem_cons, List.not_mem_nil, or_false] at hM
    rcases hM with rfl | rfl | rfl
    · have := h1.len; omega
    · have := h2.len; omega
    · have := h3.len; omega)
  have eL : mL [M1, M2, M3] = [.sl (some 2) (zL M1), .sl (some 2) (zL M2), .sl (some 2) (zL M3)] := rfl
  rw [eL] at sm
  by_cases hs : smB 6 1 [M1, M2, M3] = true
  · obtain ⟨ia, al⟩ := isP_small h1.each (small_of hs (M := M1) (by simp))
    obtain ⟨ib, bl⟩ := isP_small h2.each (small_of hs (M := M2) (by simp))
    obtain ⟨ic, cl⟩ := isP_small h3.each (small_of hs (M := M3) (by simp))
    rw [hs] at sm
    obtain ⟨a, ea⟩ : ∃ a, a = piL M1 := ⟨_, rfl⟩
    obtain ⟨b, eb⟩ : ∃ a, a = piL M2 := ⟨_, rfl⟩
    obtain ⟨c, ec⟩ : ∃ a, a = piL M3 := ⟨_, rfl⟩
    rw [← ea] at ia
    rw [← eb] at ib
    rw [← ec] at ic
    clear ea eb ec hs
    obtain ⟨A, eA⟩ : ∃ A, A = zL M1 := ⟨_, rfl⟩
    obtain ⟨B, eB⟩ : ∃ A, A = zL M2 := ⟨_, rfl⟩
    obtain ⟨C, eC⟩ : ∃ A, A = zL M3 := ⟨_, rfl⟩
    rw [← eA] at ia al sm ⊢
    rw [← eB] at ib bl sm ⊢
    rw [← eC] at ic cl sm ⊢
    clear eA eB eC eL h1 h2 h3 M1 M2 M3
    have gg := own_plain (ggcd (k0 := 1) (L := 6) ia ib al bl (by omega) (by omega))
    have gz := PZ_length (tr (gdZ a b))
    by_cases hz : tr a = [] ∧ tr b = []
    · have n1 := own_plain (pnorm ia (by omega) (by omega))
      have n2 := own_plain (pnorm ib (by omega) (by omega))
      rw [gdZ_nil hz] at gg gz
      rw [hz.1] at n1
      rw [hz.2] at n2
      obtain ⟨W, hW⟩ : ∃ W, W = PZ [] := ⟨_, rfl⟩
      rw [← hW] at gg gz n1 n2
      refine spec_at Try.func10 ok_law11_ZgcdDivides [] rfl (by simp) ?_
      unfold sc_law11_ZgcdDivides
      refine WS_seq (WS_reg [] ?_); simp [gz]
      refine WS_seq (WS_reg [] ?_); simp [gz]
      refine callK aw ?_; simp [gz]
      refine WS_seq (WS_seq (WS_reg [] ?_)); simp [gz]
      refine callK sm ?_; simp [gz]
      refine WS_cond (t := false) (by simp [gz]) (fun h => by cases h) (fun _ => ?_)
      refine WS_skip ?_; simp [gz]
      refine WS_seq (WS_reg [] ?_); simp [gz]
      refine callK gg ?_; simp [gz]
      refine WS_seq (WS_seq (WS_reg [] ?_)); simp [gz]
      refine WS_cond (t := true) (by simp [gz]) (fun _ => ?_) (fun h => by cases h)
      refine WS_seq (WS_reg [] ?_); simp [gz]
      refine callK n1 ?_; simp [gz]
      refine callK n2 ?_; simp [gz]
      refine WS_ret ?_; simp [gz]
      decide
    · have la : a.length ≤ 6 := by have := ia.len; omega
      have num1 : 2 * (1 + 2) * 3 ^ 6 ≤ 2 ^ 24 := by omega
      have num2 : 2 * (8 + 2) * 3 ^ 12 ≤ 2 ^ 24 := by omega
      have hb1 : A.length * (2 ^ 9 + 1) ≤ 2 ^ 24 := by
        exact Nat.le_trans (Nat.mul_le_mul_right _ al) (by decide)
      have hb2 : B.length * (2 ^ 9 + 1) ≤ 2 ^ 24 := by
        exact Nat.le_trans (Nat.mul_le_mul_right _ bl) (by decide)
      have gba := own_plain (ggcd (k0 := 1) (L := 6) ib ia bl al (by omega) num1)
      have lb : b.length ≤ 6 := by have := ib.len; omega
      obtain ⟨Kg, k', m, pg, k1, hm, hk, hk', hC, hKg, hm6, hne⟩ := gdZ_lim ia.pl ib.pl la lb hz
      have hdv := gdZ_left (a := a) (b := b)
      have tg := tr_tr (gdZ a b)
      obtain ⟨x, ex, tx, px, lx⟩ := dv_quot ia.pl la pg k1 tg hne hm hk (hdv.1.eqpl (cf_tr _).symm)
      obtain ⟨y, ey, ty, py, ly⟩ := dv_quot ib.pl lb pg k1 tg hne hm hk (hdv.2.eqpl (cf_tr _).symm)
      have hne2 : tr (tr (gdZ a b)) ≠ [] := by rw [tg]; exact hne
      have tl : (tr (gdZ a b)).length ≤ 7 := by omega
      have ig := isP_PZ (pg.mono hKg)
      have d1 := pdivq (ia.mono (show 1 ≤ 2 ^ 9 by omega)) ig (by omega) (by omega) (by rw [PZ_length]; omega) hb1
      rw [pdivQ_some hne2 ex, tx] at d1
      have d2 := pdivq (ib.mono (show 1 ≤ 2 ^ 9 by omega)) ig (by omega) (by omega) (by rw [PZ_length]; omega) hb2
      rw [pdivQ_some hne2 ey, ty] at d2
      have m1 := own_plain (pmul ia ic (by omega) (by omega) (by omega))
      have m2 := own_plain (pmul ib ic (by omega) (by omega) (by omega))
      have pm1 : PL 8 (tr (mulL a c)) := pl_tr ((pl_mul ic.pl ia.pl).mono (by omega))
      have pm2 : PL 8 (tr (mulL b c)) := pl_tr ((pl_mul ic.pl ib.pl).mono (by omega))
      have lc : c.length ≤ 6 := by have := ic.len; omega
      have lm1 : (tr (mulL a c)).length ≤ 12 := by have := tr_len (mulL a c); have := mulL_len c a; omega
      have lm2 : (tr (mulL b c)).length ≤ 12 := by have := tr_len (mulL b c); have := mulL_len c b; omega
      have gh := own_plain (ggcd (k0 := 8) (L := 12) (isP_PZ pm1) (isP_PZ pm2) (by rw [PZ_length]; omega) (by rw [PZ_length]; omega) (by omega) num2)
      rw [gdZ_eqp (cf_tr (mulL a c)) (cf_tr (mulL b c))] at gh
      have mk := own_plain (pmul ig (ic.mono (show 1 ≤ 2 ^ 9 by omega)) (by omega) (by rw [PZ_length]; omega) (by omega))
      have ek : tr (mulL (tr (gdZ a b)) c) = tr (mulL (gdZ a b) c) := tr_of_eqp (eqp_mulL_left c (cf_tr _))
      have pk : PL (2 ^ 11) (tr (mulL (gdZ a b) c)) := by
        rw [← ek]
        exact pl_tr ((pl_mul ic.pl (pg.mono hKg)).mono (by omega))
      have lk : (tr (mulL (gdZ a b) c)).length ≤ 2 ^ 11 := by
        rw [← ek]
        have := tr_len (mulL (tr (gdZ a b)) c); have := mulL_len c (tr (gdZ a b)); omega
      rw [ek] at mk
      have hpos := gdZ_pos hz
      have zg : zlen (ldL (gdZ a b)) ≤ 2 ^ 9 := (pg.mono hKg) _
      have sg := zsign (isZ_of zg) (by omega)
      rw [Int.sign_eq_one_of_pos hpos] at sg
      have gxy := own_plain (ggcd (k0 := k') (L := m) (isP_PZ px) (isP_PZ py) (by rw [PZ_length]; exact lx) (by rw [PZ_length]; exact ly) (by omega) hC)
      have e1 : tr (gdZ x y) = [1] := by
        rw [tr_of_eqp (gdZ_rest hz (ex.trans (eqp_mulL_right (cf_tr _) x)) (ey.trans (eqp_mulL_right (cf_tr _) y)))]; decide
      rw [e1] at gxy
      have o1 := ofc (l := [1]) (by decide) (by decide) (by decide)
      have s1 := same11 (i := 2) (l := [1]) ⟨(pl_small (l := [1]) (by decide)).mono (by omega), by decide⟩ (by omega)
      rw [tr_of_eqp (gdZ_comm a b)] at gba
      have s3 := same11 (i := 9) (l := tr (gdZ a b)) ⟨pg.mono hKg, by omega⟩ (by omega)
      have hgl := PZ_get (tr (gdZ a b)) ((tr (gdZ a b)).length - 1) (by have := List.length_pos_iff.2 hne; omega)
      rw [show cf (tr (gdZ a b)) ((tr (gdZ a b)).length - 1) = ldL (gdZ a b) from rfl] at hgl
      have tp := List.length_pos_iff.2 hne
      obtain ⟨t, ht⟩ : ∃ t, t = (tr (gdZ a b)).length := ⟨_, rfl⟩
      rw [← ht] at gz tl tp
      simp only [← ht] at hgl
      have tB : ((t : Int) == 0) = false := by simp; omega
      have tN : ¬ t = 0 := by omega
      have w1 : IntKind.i64.wrap ((t : Int) - 1) = (t : Int) - 1 := i64_int _ (by omega) (by omega)
      have t1 : ((t : Int) - 1).toNat = t - 1 := by omega
      have i1 : (1 : Int) ≤ (t : Int) := by omega
      have i2 : t - 1 < t := by omega
      have i3 : (t : Int) - 1 < (t : Int) := by omega
      have hcase : tr (gdZ (mulL a c) (mulL b c)) = tr (mulL (gdZ a b) c) ∨ (tr (gdZ (mulL a c) (mulL b c)) = tr (scL (-1) (tr (mulL (gdZ a b) c))) ∧ tr (mulL (gdZ a b) c) ≠ []) := by
        by_cases hc : tr c = []
        · left
          rw [gdZ_nil ⟨tr_mulL_nil.2 (.inr hc), tr_mulL_nil.2 (.inr hc)⟩, tr_mulL_nil.2 (.inr hc)]
        · rcases gdZ_mul hc hz with h | h
          · exact .inl (tr_of_eqp h)
          · refine .inr ⟨tr_of_eqp (h.trans (eqp_scL _ (cf_tr _).symm)), fun h0 => ?_⟩
            rcases tr_mulL_nil.1 h0 with h1 | h1
            · exact hne h1
            · exact hc h1
      obtain ⟨g, hg⟩ : ∃ g, g = ldL (gdZ a b) := ⟨_, rfl⟩
      rw [← hg] at sg
      simp only [← hg] at hgl
      obtain ⟨WG, wG⟩ : ∃ W, W = PZ (tr (gdZ a b)) := ⟨_, rfl⟩
      simp only [← wG] at hgl
      rw [← wG] at gg d1 d2 mk gba s3 gz
      obtain ⟨WX, wX⟩ : ∃ W, W = PZ x := ⟨_, rfl⟩
      rw [← wX] at d1 gxy
      obtain ⟨WY, wY⟩ : ∃ W, W = PZ y := ⟨_, rfl⟩
      rw [← wY] at d2 gxy
      obtain ⟨U1, u1⟩ : ∃ W, W = PZ (tr (mulL a c)) := ⟨_, rfl⟩
      rw [← u1] at m1 gh
      obtain ⟨U2, u2⟩ : ∃ W, W = PZ (tr (mulL b c)) := ⟨_, rfl⟩
      rw [← u2] at m2 gh
      obtain ⟨W1, w1'⟩ : ∃ W, W = PZ [1] := ⟨_, rfl⟩
      rw [← w1'] at gxy o1 s1
      rcases hcase with hcase | ⟨hcase, hk0⟩
      · rw [hcase] at gh
        have s2 := same11 (i := 11) (l := tr (mulL (gdZ a b) c)) ⟨pk, lk⟩ (by omega)
        obtain ⟨WK, wK⟩ : ∃ W, W = PZ (tr (mulL (gdZ a b) c)) := ⟨_, rfl⟩
        rw [← wK] at gh mk s2
        refine spec_at Try.func10 ok_law11_ZgcdDivides [] rfl (by simp) ?_
        unfold sc_law11_ZgcdDivides
        refine WS_seq (WS_reg [] ?_); simp [gz, tB, tN, w1, t1, i1, i2, i3, hgl]
        refine WS_seq (WS_reg [] ?_); simp [gz, tB, tN, w1, t1, i1, i2, i3, hgl]
        refine callK aw ?_; simp [gz, tB, tN, w1, t1, i1, i2, i3, hgl]
        refine WS_seq (WS_seq (WS_reg [] ?_)); simp [gz, tB, tN, w1, t1, i1, i2, i3, hgl]
        refine callK sm ?_; simp [gz, tB, tN, w1, t1, i1, i2, i3, hgl]
        refine WS_cond (t := false) (by simp [gz, tB, tN, w1, t1, i1, i2, i3, hgl]) (fun h => by cases h) (fun _ => ?_)
        refine WS_skip ?_; simp [gz, tB, tN, w1, t1, i1, i2, i3, hgl]
        refine WS_seq (WS_reg [] ?_); simp [gz, tB, tN, w1, t1, i1, i2, i3, hgl]
        refine callK gg ?_; simp [gz, tB, tN, w1, t1, i1, i2, i3, hgl]
        refine WS_seq (WS_seq (WS_reg [] ?_)); simp [gz, tB, tN, w1, t1, i1, i2, i3, hgl]
        refine WS_cond (t := false) (by simp [gz, tB, tN, w1, t1, i1, i2, i3, hgl]) (fun h => by cases h) (fun _ => ?_)
        refine WS_skip ?_; simp [gz, tB, tN, w1, t1, i1, i2, i3, hgl]
        refine WS_seq (WS_reg [] ?_); simp [gz, tB, tN, w1, t1, i1, i2, i3, hgl]
        refine callK d1 ?_; simp [gz, tB, tN, w1, t1, i1, i2, i3, hgl]
        refine WS_seq (WS_reg [] ?_); simp [gz, tB, tN, w1, t1, i1, i2, i3, hgl]
        refine callK d2 ?_; simp [gz, tB, tN, w1, t1, i1, i2, i3, hgl]
        refine WS_seq (WS_reg [] ?_); simp [gz, tB, tN, w1, t1, i1, i2, i3, hgl]
        refine callK m1 ?_; simp [gz, tB, tN, w1, t1, i1, i2, i3, hgl]
        refine callK m2 ?_; simp [gz, tB, tN, w1, t1, i1, i2, i3, hgl]
        refine callK gh ?_; simp [gz, tB, tN, w1, t1, i1, i2, i3, hgl]
        refine WS_seq (WS_reg [] ?_); simp [gz, tB, tN, w1, t1, i1, i2, i3, hgl]
        refine callK mk ?_; simp [gz, tB, tN, w1, t1, i1, i2, i3, hgl]
        refine WS_seq (WS_reg [] ?_); simp [gz, tB, tN, w1, t1, i1, i2, i3, hgl]
        refine callK sg ?_; simp [gz, tB, tN, w1, t1, i1, i2, i3, hgl]
        refine callK gxy ?_; simp [gz, tB, tN, w1, t1, i1, i2, i3, hgl]
        refine callK o1 ?_; simp [gz, tB, tN, w1, t1, i1, i2, i3, hgl]
        refine callK s1 ?_; simp [gz, tB, tN, w1, t1, i1, i2, i3, hgl]
        refine callK s2 ?_; simp [gz, tB, tN, w1, t1, i1, i2, i3, hgl]
        refine callK gba ?_; simp [gz, tB, tN, w1, t1, i1, i2, i3, hgl]
        refine callK s3 ?_; simp [gz, tB, tN, w1, t1, i1, i2, i3, hgl]
        refine WS_ret ?_; simp [gz, tB, tN, w1, t1, i1, i2, i3, hgl]
      · rw [hcase] at gh
        have hop : Opp (tr (scL (-1) (tr (mulL (gdZ a b) c)))) (tr (mulL (gdZ a b) c)) := by
          refine ⟨?_, fun i => ?_⟩
          · rw [tr_scL (by decide), tr_tr]
          · rw [cf_tr, cf_scL]; omega
        have s2 := same11_opp hop (by rw [tr_tr]; exact hk0) (by omega)
        have o2 := zof (-1) (by omega) (by omega)
        have l2 : zlen (-1) ≤ 2 ^ 11 := by have : zlen (-1) ≤ 1 := zlen_small (by decide); omega
        have sc := own_plain (pscale (isP_PZ pk) (isZ_of l2) (by omega) (by omega) (by rw [PZ_length]; omega))
        have lsk : Ld 12 (tr (scL (-1) (tr (mulL (gdZ a b) c)))) := ld_tr (ld_sc ⟨pk, lk⟩ l2)
        have s4 := same11 lsk (by omega)
        obtain ⟨WK, wK⟩ : ∃ W, W = PZ (tr (mulL (gdZ a b) c)) := ⟨_, rfl⟩
        rw [← wK] at mk s2 sc
        obtain ⟨WH, wH⟩ : ∃ W, W = PZ (tr (scL (-1) (tr (mulL (gdZ a b) c)))) := ⟨_, rfl⟩
        rw [← wH] at gh s2 sc s4
        refine spec_at Try.func10 ok_law11_ZgcdDivides [] rfl (by simp) ?_
        unfold sc_law11_ZgcdDivides
        refine WS_seq (WS_reg [] ?_); simp [gz, tB, tN, w1, t1, i1, i2, i3, hgl]
        refine WS_seq (WS_reg [] ?_); simp [gz, tB, tN, w1, t1, i1, i2, i3, hgl]
        refine callK aw ?_; simp [gz, tB, tN, w1, t1, i1, i2, i3, hgl]
        refine WS_seq (WS_seq (WS_reg [] ?_)); simp [gz, tB, tN, w1, t1, i1, i2, i3, hgl]
        refine callK sm ?_; simp [gz, tB, tN, w1, t1, i1, i2, i3, hgl]
        refine WS_cond (t := false) (by simp [gz, tB, tN, w1, t1, i1, i2, i3, hgl]) (fun h => by cases h) (fun _ => ?_)
        refine WS_skip ?_; simp [gz, tB, tN, w1, t1, i1, i2, i3, hgl]
        refine WS_seq (WS_reg [] ?_); simp [gz, tB, tN, w1, t1, i1, i2, i3, hgl]
        refine callK gg ?_; simp [gz, tB, tN, w1, t1, i1, i2, i3, hgl]
        refine WS_seq (WS_seq (WS_reg [] ?_)); simp [gz, tB, tN, w1, t1, i1, i2, i3, hgl]
        refine WS_cond (t := false) (by simp [gz, tB, tN, w1, t1, i1, i2, i3, hgl]) (fun h => by cases h) (fun _ => ?_)
        refine WS_skip ?_; simp [gz, tB, tN, w1, t1, i1, i2, i3, hgl]
        refine WS_seq (WS_reg [] ?_); simp [gz, tB, tN, w1, t1, i1, i2, i3, hgl]
        refine callK d1 ?_; simp [gz, tB, tN, w1, t1, i1, i2, i3, hgl]
        refine WS_seq (WS_reg [] ?_); simp [gz, tB, tN, w1, t1, i1, i2, i3, hgl]
        refine callK d2 ?_; simp [gz, tB, tN, w1, t1, i1, i2, i3, hgl]
        refine WS_seq (WS_reg [] ?_); simp [gz, tB, tN, w1, t1, i1, i2, i3, hgl]
        refine callK m1 ?_; simp [gz, tB, tN, w1, t1, i1, i2, i3, hgl]
        refine callK m2 ?_; simp [gz, tB, tN, w1, t1, i1, i2, i3, hgl]
        refine callK gh ?_; simp [gz, tB, tN, w1, t1, i1, i2, i3, hgl]
        refine WS_seq (WS_reg [] ?_); simp [gz, tB, tN, w1, t1, i1, i2, i3, hgl]
        refine callK mk ?_; simp [gz, tB, tN, w1, t1, i1, i2, i3, hgl]
        refine WS_seq (WS_reg [] ?_); simp [gz, tB, tN, w1, t1, i1, i2, i3, hgl]
        refine callK sg ?_; simp [gz, tB, tN, w1, t1, i1, i2, i3, hgl]
        refine callK gxy ?_; simp [gz, tB, tN, w1, t1, i1, i2, i3, hgl]
        refine callK o1 ?_; simp [gz, tB, tN, w1, t1, i1, i2, i3, hgl]
        refine callK s1 ?_; simp [gz, tB, tN, w1, t1, i1, i2, i3, hgl]
        refine callK s2 ?_; simp [gz, tB, tN, w1, t1, i1, i2, i3, hgl]
        refine callK o2 ?_; simp [gz, tB, tN, w1, t1, i1, i2, i3, hgl]
        refine callK sc ?_; simp [gz, tB, tN, w1, t1, i1, i2, i3, hgl]
        refine callK s4 ?_; simp [gz, tB, tN, w1, t1, i1, i2, i3, hgl]
        refine callK gba ?_; simp [gz, tB, tN, w1, t1, i1, i2, i3, hgl]
        refine callK s3 ?_; simp [gz, tB, tN, w1, t1, i1, i2, i3, hgl]
        refine WS_ret ?_; simp [gz, tB, tN, w1, t1, i1, i2, i3, hgl]
  · have hs' : smB 6 1 [M1, M2, M3] = false := by simpa using hs
    rw [hs'] at sm
    refine spec_at Try.func10 ok_law11_ZgcdDivides [] rfl (by simp) ?_
    unfold sc_law11_ZgcdDivides
    refine WS_seq (WS_reg [] ?_); simp
    refine WS_seq (WS_reg [] ?_); simp
    refine callK aw ?_; simp
    refine WS_seq (WS_seq (WS_reg [] ?_)); simp
    refine callK sm ?_; simp
    refine WS_cond (t := true) (by simp) (fun _ => ?_) (fun h => by cases h)
    refine WS_seq (WS_reg [] ?_); simp
    refine WS_ret ?_; simp
end Go.Vw

