/- The contracts of the laws of layer 11 and 12 and 14. -/
import Derived.Test.YtfdjbmamidmgfaaMA
import Derived.Test.YtfdjbmamidmgfaaMB
import Derived.Test.YtfdjbmamidmgfaaMC
import Derived.Test.YtfdjbmamidmgfaaMD
import Derived.Test.YtfdjbmamidmgfaaME
import Derived.Test.YtfdjbmamidmgfaaMF
import Derived.Test.YtfdjbmamidmgfaaMG
import Derived.Test.YtfdjbmamidmgfaaMP
import Derived.Test.YtfdjbmamidmgfaaMR
set_option linter.unusedVariables false
set_option linter.unusedSimpArgs false
namespace Go.Vw
open Go.Proofs Go.Py

attribute [local simp] RunL_cons RunL_nil AOp_none AOp_some acK_v acK_call agK_tt agK_ff agK_tf agK_ft agK_tup agK_i aop aun St.ev St.heap St.put thenQ blockQ scopeQ upd_apply S0 argSlot lowV V.cells V.isAgg V.fits V.part partOk plains St.ret retSV svOf svsOf retQ retP retAll retOne uL_length uL_get? uL_get St.elems retH ownIdx ownAt
attribute [local simp] RunD_none RunD_some RunD_nil RunE_any acD_v acD_call agD_tt agD_ff agD_tf agD_ft agD_tup entsOf svref SO.opds SO.writes SO.makes callEnt pureSV pureOf RV.isOwn
attribute [local simp] abin_add abin_sub abin_mul abin_quo abin_rem abin_eql abin_neq abin_lss abin_leq abin_gtr abin_geq
attribute [local simp] uL_snoc uL_set uL_take uL_drop uL_append uL_replicate uL_nil
attribute [local simp] acK_callG acD_callG St.giv gsSV gvSV retEnts ownEnts SO.still
attribute [local simp] S0G argSlotG givSV retQG retPG retAllG retOneG HObj.width V.scalar trimQ V.byte
attribute [local simp] zv V.fits fillOk fillV Z_eq
set_option maxHeartbeats 1000000 in
theorem small11 (n w : Nat) (hn : n ≤ 2 ^ 40) (hw : w ≤ 2 ^ 40) (Ms : List (List (Bool × List Nat))) (hM : Ms.length ≤ 2 ^ 40) (hMs : ∀ M ∈ Ms, M.length ≤ 2 ^ 40) : Spec Try.prog f_law11_small [.i .i64 (n : Int), .i .i64 (w : Int), .sl none (mL Ms)] (· = [.pure (.b (smB n w Ms))]) := by
  have hml : (mL Ms).length = Ms.length := by simp [mL]
  refine spec_at Try.func8 ok_law11_small [] rfl (by simp) ?_
  unfold sc_law11_small
  refine WS_seq (WS_reg [] ?_); simp
  refine WS_seq (WS_seq (WS_reg [] ?_)); simp
  refine WS_block ?_
  refine WS_loop (SmS n w Ms) (fun S => Ms.length - nM 7 S) ⟨0, by omega, rfl, rfl, rfl, rfl, rfl⟩ ?_
  rintro S ⟨i, hi, s0, s1, s2, s7, hall⟩
  have d7 := nM_eq s7
  by_cases hlt : i < Ms.length
  · have hltI : (i : Int) < (Ms.length : Int) := by omega
    have hml2 : i < (mL Ms).length := by omega
    have hget : (mL Ms)[i] = .sl (some 2) (zL Ms[i]) := by simp [mL]
    have hmem := List.getElem_mem hlt
    have htk := List.take_succ_eq_append_getElem hlt
    obtain ⟨M, hMe⟩ : ∃ M, M = Ms[i] := ⟨_, rfl⟩
    rw [← hMe] at hget hmem htk
    have hMl := hMs M hmem
    have hzl : (zL M).length = M.length := by simp [zL]
    have wi := i64_succ i (by omega)
    obtain ⟨O, hO⟩ : ∃ O, O = mL Ms := ⟨_, rfl⟩
    have hOl : i < O.length := by rw [hO]; omega
    have hg2 : O[i] = .sl (some 2) (zL M) := by simp only [hO]; exact hget
    rw [← hO] at hml s2
    by_cases hb : M.length ≤ n
    · have hbI : ¬ (n : Int) < (M.length : Int) := by omega
      refine WS_seq (WS_seq (WS_reg [] ?_)); simp [s0, s1, s2, s7, hlt, hltI, hml, hg2, hzl, hbI]
      refine WS_cond (t := true) (by simp [s0, s1, s2, s7, hlt, hltI, hml, hg2, hzl, hbI]) (fun _ => ?_) (fun h => by cases h)
      refine WS_skip ?_; simp [s0, s1, s2, s7, hlt, hltI, hml, hg2, hzl, hbI]
      refine WS_seq (WS_block (WS_seq (WS_seq (WS_reg [] ?_)))); simp [s0, s1, s2, s7, hlt, hltI, hml, hg2, hzl, hbI]
      refine WS_cond (t := false) (by simp [s0, s1, s2, s7, hlt, hltI, hml, hg2, hzl, hbI]) (fun h => by cases h) (fun _ => ?_)
      refine WS_skip ?_; simp [s0, s1, s2, s7, hlt, hltI, hml, hg2, hzl, hbI]
      refine WS_seq (WS_reg [] ?_); simp [s0, s1, s2, s7, hlt, hltI, hml, hg2, hzl, hbI]
      refine WS_block ?_
      refine WS_loop (SmJ n w Ms i M) (fun S => M.length - nM 8 S) ⟨0, by omega, by simp, rfl, by simp [s0], by simp [s1], by simp [s2, hO], by simp [s7], hall⟩ ?_
      clear s0 s1 s2 s7
      rintro S' ⟨k, hk, s8, hr, s0, s1, s2, s7, -⟩
      have d8 := nM_eq s8
      rw [← hO] at s2
      by_cases hlt2 : k < M.length
      · have hltI2 : (k : Int) < (M.length : Int) := by omega
        have hzk : k < (zL M).length := by omega
        have hgk : (zL M)[k] = .agg [.b M[k].1, .sl none (uL M[k].2)] := by simp [zL]
        have htk2 := List.take_succ_eq_append_getElem hlt2
        have hmem2 := List.getElem_mem hlt2
        obtain ⟨p, hp⟩ : ∃ p, p = M[k] := ⟨_, rfl⟩
        rw [← hp] at hgk htk2 hmem2
        have wk := i64_succ k (by omega)
        obtain ⟨Z1, hZ1⟩ : ∃ O, O = zL M := ⟨_, rfl⟩
        have hZl : k < Z1.length := by rw [hZ1]; omega
        have hg3 : Z1[k] = .agg [.b p.1, .sl none (uL p.2)] := by simp only [hZ1]; exact hgk
        rw [← hZ1] at hzl hg2
        by_cases hq : p.2.length ≤ w
        · have hqI : ¬ (w : Int) < (p.2.length : Int) := by omega
          refine WS_seq (WS_seq (WS_reg [] ?_)); simp [s0, s1, s2, s7, s8, hlt, hltI, hlt2, hltI2, hml, hg2, hzl, hg3, hqI, wk]
          refine WS_cond (t := true) (by simp [s0, s1, s2, s7, s8, hlt, hltI, hlt2, hltI2, hml, hg2, hzl, hg3, hqI, wk]) (fun _ => ?_) (fun h => by cases h)
          refine WS_skip ?_; simp [s0, s1, s2, s7, s8, hlt, hltI, hlt2, hltI2, hml, hg2, hzl, hg3, hqI, wk]
          refine WS_seq (WS_block (WS_seq (WS_reg [] ?_))); simp [s0, s1, s2, s7, s8, hlt, hltI, hlt2, hltI2, hml, hg2, hzl, hg3, hqI, wk]
          refine WS_cond (t := false) (by simp [s0, s1, s2, s7, s8, hlt, hltI, hlt2, hltI2, hml, hg2, hzl, hg3, hqI, wk]) (fun h => by cases h) (fun _ => ?_)
          refine WS_skip ?_; simp [s0, s1, s2, s7, s8, hlt, hltI, hlt2, hltI2, hml, hg2, hzl, hg3, hqI, wk]
          refine WS_reg [] ?_; simp [s0, s1, s2, s7, s8, hlt, hltI, hlt2, hltI2, hml, hg2, hzl, hg3, hqI, wk]
          refine ⟨⟨k + 1, by omega, by simp, by rw [htk2]; exact smR_snoc hr hq, by simp [s0], by simp [s1], by simp [s2, hO], by simp [s7], hall⟩, ?_⟩
          show M.length - nM 8 _ < M.length - nM 8 S'
          rw [d8, nM_eq (i := 8) (n := k + 1) (by simp)]
          omega
        · have hqI : (w : Int) < (p.2.length : Int) := by omega
          have hno : smR w M = false := by
            rw [smR, List.all_eq_false]
            exact ⟨p, hmem2, by simp; omega⟩
          rw [smB_false hmem (by rw [hno, Bool.and_false])]
          refine WS_seq (WS_seq (WS_reg [] ?_)); simp [s0, s1, s2, s7, s8, hlt, hltI, hlt2, hltI2, hml, hg2, hzl, hg3, hqI, wk]
          refine WS_cond (t := true) (by simp [s0, s1, s2, s7, s8, hlt, hltI, hlt2, hltI2, hml, hg2, hzl, hg3, hqI, wk]) (fun _ => ?_) (fun h => by cases h)
          refine WS_skip ?_; simp [s0, s1, s2, s7, s8, hlt, hltI, hlt2, hltI2, hml, hg2, hzl, hg3, hqI, wk]
          refine WS_seq (WS_block (WS_seq (WS_reg [] ?_))); simp [s0, s1, s2, s7, s8, hlt, hltI, hlt2, hltI2, hml, hg2, hzl, hg3, hqI, wk]
          refine WS_cond (t := true) (by simp [s0, s1, s2, s7, s8, hlt, hltI, hlt2, hltI2, hml, hg2, hzl, hg3, hqI, wk]) (fun _ => ?_) (fun h => by cases h)
          refine WS_seq (WS_reg [] ?_); simp [s0, s1, s2, s7, s8, hlt, hltI, hlt2, hltI2, hml, hg2, hzl, hg3, hqI, wk]
          refine WS_ret ?_; simp [s0, s1, s2, s7, s8, hlt, hltI, hlt2, hltI2, hml, hg2, hzl, hg3, hqI, wk]
      · obtain rfl : k = M.length := by omega
        have hltI2 : ¬ (M.length : Int) < (M.length : Int) := by omega
        rw [List.take_length] at hr
        refine WS_seq (WS_seq (WS_reg [] ?_)); simp [s0, s1, s2, s7, s8, hlt, hltI, hltI2, hml, hg2, hzl, wi]
        refine WS_cond (t := false) (by simp [s0, s1, s2, s7, s8, hlt, hltI, hltI2, hml, hg2, hzl, wi]) (fun h => by cases h) (fun _ => ?_)
        refine WS_exit ?_; simp [s0, s1, s2, s7, s8, hlt, hltI, hltI2, hml, hg2, hzl, wi]
        refine WS_reg [] ?_; simp [s0, s1, s2, s7, s8, hlt, hltI, hltI2, hml, hg2, hzl, wi]
        refine ⟨⟨i + 1, by omega, by simp [s0], by simp [s1], by simp [s2, hO], by simp, by rw [htk]; exact smB_snoc hall hb hr⟩, ?_⟩
        show Ms.length - nM 7 _ < Ms.length - nM 7 S
        rw [d7, nM_eq (i := 7) (n := i + 1) (by simp)]
        omega
    · have hbI : (n : Int) < (M.length : Int) := by omega
      rw [smB_false hmem (by simp; omega)]
      refine WS_seq (WS_seq (WS_reg [] ?_)); simp [s0, s1, s2, s7, hlt, hltI, hml, hg2, hzl, hbI]
      refine WS_cond (t := true) (by simp [s0, s1, s2, s7, hlt, hltI, hml, hg2, hzl, hbI]) (fun _ => ?_) (fun h => by cases h)
      refine WS_skip ?_; simp [s0, s1, s2, s7, hlt, hltI, hml, hg2, hzl, hbI]
      refine WS_seq (WS_block (WS_seq (WS_seq (WS_reg [] ?_)))); simp [s0, s1, s2, s7, hlt, hltI, hml, hg2, hzl, hbI]
      refine WS_cond (t := true) (by simp [s0, s1, s2, s7, hlt, hltI, hml, hg2, hzl, hbI]) (fun _ => ?_) (fun h => by cases h)
      refine WS_seq (WS_reg [] ?_); simp [s0, s1, s2, s7, hlt, hltI, hml, hg2, hzl, hbI]
      refine WS_ret ?_; simp [s0, s1, s2, s7, hlt, hltI, hml, hg2, hzl, hbI]
  · obtain rfl : i = Ms.length := by omega
    have hltI : ¬ (Ms.length : Int) < (Ms.length : Int) := by omega
    rw [List.take_length] at hall
    rw [hall]
    refine WS_seq (WS_seq (WS_reg [] ?_)); simp [s0, s1, s2, s7, hltI, hml]
    refine WS_cond (t := false) (by simp [s0, s1, s2, s7, hltI, hml]) (fun h => by cases h) (fun _ => ?_)
    refine WS_exit ?_; simp [s0, s1, s2, s7, hltI, hml]
    refine WS_seq (WS_reg [] ?_); simp [s0, s1, s2, s7, hltI, hml]
    refine WS_ret ?_; simp [s0, s1, s2, s7, hltI, hml]
theorem same11 {i : Nat} {l : List Int} (h : Ld i l) (hi : i ≤ 40) : Spec Try.prog f_law11_same [.sl (some 2) (PZ l), .sl (some 2) (PZ l)] (· = [.pure (.b true)]) := by
  have sm := psame l (h.pl40 hi) (h.len40 hi)
  obtain ⟨O, hO⟩ : ∃ O, O = PZ l := ⟨_, rfl⟩
  rw [← hO] at sm ⊢
  refine spec_at Try.func30 ok_law11_same [] rfl (by simp) ?_
  unfold sc_law11_same
  refine WS_seq (WS_reg [] ?_); simp
  refine WS_seq (WS_reg [] ?_); simp
  refine callK sm ?_; simp
  refine WS_ret ?_; simp
theorem awake11 : Spec Try.prog f_law11_awake [] (· = [.pure (.b true)]) := by
  have s1 : Sml [-2, 0, 1] := by decide
  have s2 : Sml [-3, 0, 1] := by decide
  have s3 : Sml [-4, 0, 4] := by decide
  have s4 : Sml [6, 6] := by decide
  have s5 : Sml [2, 2] := by decide
  have o1 := ofc s1 (by decide) (by decide)
  have o2 := ofc s2 (by decide) (by decide)
  have o3 := ofc s3 (by decide) (by decide)
  have o4 := ofc s4 (by decide) (by decide)
  have o5 := ofc s5 (by decide) (by decide)
  have rs := res_awake
  have gc := own_plain (ggcd (L := 3) (isP_PZ (pl_small s3)) (isP_PZ (pl_small s4)) (by rw [PZ_length]; decide) (by rw [PZ_length]; decide) (by decide) (by decide))
  rw [show tr (gdZ [-4, 0, 4] [6, 6]) = [2, 2] by rw [gdZ, gdL_step (by decide), gdL_nil (by decide)]; decide] at gc
  have tt := ztext (k := 1) (isZ_Z (z := 1) (zlen_small (by decide))) (by omega)
  rw [show zT 1 = [49] by rw [zT, if_neg (by omega)]; decide +kernel] at tt
  have sm := same11 (i := 2) (l := [2, 2]) ⟨(pl_small s5).mono (by decide), by decide⟩ (by omega)
  have l5 : (PZ [2, 2]).length = 2 := by rw [PZ_length]; rfl
  obtain ⟨A1, h1⟩ : ∃ A, A = PZ [-2, 0, 1] := ⟨_, rfl⟩
  obtain ⟨A2, h2⟩ : ∃ A, A = PZ [-3, 0, 1] := ⟨_, rfl⟩
  obtain ⟨A3, h3⟩ : ∃ A, A = PZ [-4, 0, 4] := ⟨_, rfl⟩
  obtain ⟨A4, h4⟩ : ∃ A, A = PZ [6, 6] := ⟨_, rfl⟩
  obtain ⟨A5, h5⟩ : ∃ A, A = PZ [2, 2] := ⟨_, rfl⟩
  rw [← h1] at o1 rs
  rw [← h2] at o2 rs
  rw [← h3] at o3 gc
  rw [← h4] at o4 gc
  rw [← h5] at o5 gc sm l5
  refine spec_at Try.func7 ok_law11_awake [] rfl (by simp) ?_
  unfold sc_law11_awake
  refine WS_seq (WS_reg [] ?_); simp [tx, abin_seql, l5]
  refine WS_seq (WS_reg [] ?_); simp [tx, abin_seql, l5]
  refine callK o1 ?_; simp [tx, abin_seql, l5]
  refine callK o2 ?_; simp [tx, abin_seql, l5]
  refine callK rs ?_; simp [tx, abin_seql, l5]
  refine WS_seq (WS_reg [] ?_); simp [tx, abin_seql, l5]
  refine callK o3 ?_; simp [tx, abin_seql, l5]
  refine callK o4 ?_; simp [tx, abin_seql, l5]
  refine callK gc ?_; simp [tx, abin_seql, l5]
  refine WS_seq (WS_reg [] ?_); simp [tx, abin_seql, l5]
  refine callK tt ?_; simp [tx, abin_seql, l5]
  refine callK o5 ?_; simp [tx, abin_seql, l5]
  refine callK sm ?_; simp [tx, abin_seql, l5]
  refine WS_ret ?_; simp [tx, abin_seql, l5]
end Go.Vw
namespace Go.Vw
open Go.Proofs Go.Py

attribute [local simp] RunL_cons RunL_nil AOp_none AOp_some acK_v acK_call agK_tt agK_ff agK_tf agK_ft agK_tup agK_i aop aun St.ev St.heap St.put thenQ blockQ scopeQ upd_apply S0 argSlot lowV V.cells V.isAgg V.fits V.part partOk plains St.ret retSV svOf svsOf retQ retP retAll retOne uL_length uL_get? uL_get St.elems retH ownIdx ownAt
attribute [local simp] RunD_none RunD_some RunD_nil RunE_any acD_v acD_call agD_tt agD_ff agD_tf agD_ft agD_tup entsOf svref SO.opds SO.writes SO.makes callEnt pureSV pureOf RV.isOwn
attribute [local simp] abin_add abin_sub abin_mul abin_quo abin_rem abin_eql abin_neq abin_lss abin_leq abin_gtr abin_geq
attribute [local simp] uL_snoc uL_set uL_take uL_drop uL_append uL_replicate uL_nil
attribute [local simp] acK_callG acD_callG St.giv gsSV gvSV retEnts ownEnts SO.still
attribute [local simp] S0G argSlotG givSV retQG retPG retAllG retOneG HObj.width V.scalar trimQ V.byte
attribute [local simp] zv V.fits fillOk fillV Z_eq
end Go.Vw
namespace Go.Vw
open Go.Proofs Go.Py

attribute [local simp] RunL_cons RunL_nil AOp_none AOp_some acK_v acK_call agK_tt agK_ff agK_tf agK_ft agK_tup agK_i aop aun St.ev St.heap St.put thenQ blockQ scopeQ upd_apply S0 argSlot lowV V.cells V.isAgg V.fits V.part partOk plains St.ret retSV svOf svsOf retQ retP retAll retOne uL_length uL_get? uL_get St.elems retH ownIdx ownAt
attribute [local simp] RunD_none RunD_some RunD_nil RunE_any acD_v acD_call agD_tt agD_ff agD_tf agD_ft agD_tup entsOf svref SO.opds SO.writes SO.makes callEnt pureSV pureOf RV.isOwn
attribute [local simp] abin_add abin_sub abin_mul abin_quo abin_rem abin_eql abin_neq abin_lss abin_leq abin_gtr abin_geq
attribute [local simp] uL_snoc uL_set uL_take uL_drop uL_append uL_replicate uL_nil
attribute [local simp] acK_callG acD_callG St.giv gsSV gvSV retEnts ownEnts SO.still
attribute [local simp] S0G argSlotG givSV retQG retPG retAllG retOneG HObj.width V.scalar trimQ V.byte
attribute [local simp] zv V.fits fillOk fillV Z_eq
end Go.Vw
namespace Go.Vw
open Go.Proofs Go.Py

attribute [local simp] RunL_cons RunL_nil AOp_none AOp_some acK_v acK_call agK_tt agK_ff agK_tf agK_ft agK_tup agK_i aop aun St.ev St.heap St.put thenQ blockQ scopeQ upd_apply S0 argSlot lowV V.cells V.isAgg V.fits V.part partOk plains St.ret retSV svOf svsOf retQ retP retAll retOne uL_length uL_get? uL_get St.elems retH ownIdx ownAt
attribute [local simp] RunD_none RunD_some RunD_nil RunE_any acD_v acD_call agD_tt agD_ff agD_tf agD_ft agD_tup entsOf svref SO.opds SO.writes SO.makes callEnt pureSV pureOf RV.isOwn
attribute [local simp] abin_add abin_sub abin_mul abin_quo abin_rem abin_eql abin_neq abin_lss abin_leq abin_gtr abin_geq
attribute [local simp] uL_snoc uL_set uL_take uL_drop uL_append uL_replicate uL_nil
attribute [local simp] acK_callG acD_callG St.giv gsSV gvSV retEnts ownEnts SO.still
attribute [local simp] S0G argSlotG givSV retQG retPG retAllG retOneG HObj.width V.scalar trimQ V.byte
attribute [local simp] zv V.fits fillOk fillV Z_eq
end Go.Vw
namespace Go.Vw
open Go.Proofs Go.Py

attribute [local simp] RunL_cons RunL_nil AOp_none AOp_some acK_v acK_call agK_tt agK_ff agK_tf agK_ft agK_tup agK_i aop aun St.ev St.heap St.put thenQ blockQ scopeQ upd_apply S0 argSlot lowV V.cells V.isAgg V.fits V.part partOk plains St.ret retSV svOf svsOf retQ retP retAll retOne uL_length uL_get? uL_get St.elems retH ownIdx ownAt
attribute [local simp] RunD_none RunD_some RunD_nil RunE_any acD_v acD_call agD_tt agD_ff agD_tf agD_ft agD_tup entsOf svref SO.opds SO.writes SO.makes callEnt pureSV pureOf RV.isOwn
attribute [local simp] abin_add abin_sub abin_mul abin_quo abin_rem abin_eql abin_neq abin_lss abin_leq abin_gtr abin_geq
attribute [local simp] uL_snoc uL_set uL_take uL_drop uL_append uL_replicate uL_nil
attribute [local simp] acK_callG acD_callG St.giv gsSV gvSV retEnts ownEnts SO.still
attribute [local simp] S0G argSlotG givSV retQG retPG retAllG retOneG HObj.width V.scalar trimQ V.byte
attribute [local simp] zv V.fits fillOk fillV Z_eq
end Go.Vw
namespace Go.Vw
open Go.Proofs Go.Py Go.Dt

attribute [local simp] RunL_cons RunL_nil AOp_none AOp_some acK_v acK_call agK_tt agK_ff agK_tf agK_ft agK_tup agK_i aop aun St.ev St.heap St.put thenQ blockQ scopeQ upd_apply S0 argSlot lowV V.cells V.isAgg V.fits V.part partOk plains St.ret retSV svOf svsOf retQ retP retAll retOne uL_length uL_get? uL_get St.elems retH ownIdx ownAt
attribute [local simp] RunD_none RunD_some RunD_nil RunE_any acD_v acD_call agD_tt agD_ff agD_tf agD_ft agD_tup entsOf svref SO.opds SO.writes SO.makes callEnt pureSV pureOf RV.isOwn
attribute [local simp] abin_add abin_sub abin_mul abin_quo abin_rem abin_eql abin_neq abin_lss abin_leq abin_gtr abin_geq
attribute [local simp] uL_snoc uL_set uL_take uL_drop uL_append uL_replicate uL_nil
attribute [local simp] acK_callG acD_callG St.giv gsSV gvSV retEnts ownEnts SO.still
attribute [local simp] S0G argSlotG givSV retQG retPG retAllG retOneG HObj.width V.scalar trimQ V.byte
attribute [local simp] zv V.fits fillOk fillV Z_eq
set_option maxHeartbeats 4000000 in
theorem law_ZgcdCommon (M1 M2 : List (Bool × List Nat)) (h1 : PW (2 ^ 24) M1) (h2 : PW (2 ^ 24) M2) :
    Spec Try.prog f_law11_ZgcdCommon [.sl (some 2) (zL M1), .sl (some 2) (zL M2)] (· = [.pure (.b true)]) := by
  have aw := awake11
  have sm := small11 7 1 (by omega) (by omega) [M1, M2] (by simp) (by
    intro M hM
    simp only [List.mem_cons, List.not_mem_nil, or_false] at hM
    rcases hM with rfl | rfl
    · have := h1.len; omega
    · have := h2.len; omega)
  have eL : mL [M1, M2] = [.sl (some 2) (zL M1), .sl (some 2) (zL M2)] := rfl
  rw [eL] at sm
  by_cases hs : smB 7 1 [M1, M2] = true
  · obtain ⟨ia, la⟩ := isP_small h1.each (small_of hs (by simp))
    obtain ⟨ib, lb⟩ := isP_small h2.each (small_of hs (by simp))
    rw [hs] at sm
    obtain ⟨a, ea⟩ : ∃ a, a = piL M1 := ⟨_, rfl⟩
    obtain ⟨b, eb⟩ : ∃ a, a = piL M2 := ⟨_, rfl⟩
    rw [← ea] at ia
    rw [← eb] at ib
    obtain ⟨A, eA⟩ : ∃ A, A = zL M1 := ⟨_, rfl⟩
    obtain ⟨B, eB⟩ : ∃ A, A = zL M2 := ⟨_, rfl⟩
    rw [← eA] at ia la sm ⊢
    rw [← eB] at ib lb sm ⊢
    clear eA eB eL h1 h2 ea eb hs M1 M2
    have rs := gres ia ib la lb (by omega) (by omega) (by omega) (by decide)
    have lim := rsZ_lim ia.pl ib.pl (by rw [← ia.len]; exact la) (by rw [← ib.len]; exact lb) (by omega) (by omega) (by omega) (by decide)
    have e1 := own_plain (pnorm ia (by omega) (by omega))
    have e2 := own_plain (pnorm ib (by omega) (by omega))
    have gc := own_plain (ggcd ia ib la lb (by omega) (by decide))
    have zs := zsign (isZ_of lim) (by omega)
    have xl := PZ_length (tr a)
    have yl := PZ_length (tr b)
    have gl := PZ_length (tr (gdZ a b))
    by_cases ha0 : tr a = []
    · rw [rsZ_nil (.inl ha0)] at rs zs
      rw [ha0] at e1 xl
      obtain ⟨X, hX⟩ : ∃ X, X = PZ [] := ⟨_, rfl⟩
      rw [← hX] at e1 xl
      refine spec_at Try.func3 ok_law11_ZgcdCommon [] rfl (by simp) ?_
      unfold sc_law11_ZgcdCommon
      refine WS_seq (WS_reg [] ?_); simp [xl]
      refine WS_seq (WS_reg [] ?_); simp [xl]
      refine callK aw ?_; simp [xl]
      refine WS_seq (WS_seq (WS_reg [] ?_)); simp [xl]
      refine callK sm ?_; simp [xl]
      refine WS_cond (t := false) (by simp [xl]) (fun h => by cases h) (fun _ => ?_)
      refine WS_skip ?_; simp [xl]
      refine WS_seq (WS_reg [] ?_); simp [xl]
      refine callK rs ?_; simp [xl]
      refine WS_seq (WS_seq (WS_reg [] ?_)); simp [xl]
      refine callK e1 ?_; simp [xl]
      refine WS_cond (t := true) (by simp [xl]) (fun _ => ?_) (fun h => by cases h)
      refine WS_seq (WS_reg [] ?_); simp [xl]
      refine callK zs ?_; simp [xl]
      refine WS_ret ?_; simp [xl]
    · by_cases hb0 : tr b = []
      · rw [rsZ_nil (.inr hb0)] at rs zs
        rw [hb0] at e2 yl
        obtain ⟨Y, hY⟩ : ∃ X, X = PZ [] := ⟨_, rfl⟩
        rw [← hY] at e2 yl
        obtain ⟨X, hX⟩ : ∃ X, X = PZ (tr a) := ⟨_, rfl⟩
        rw [← hX] at e1 xl
        have pa := List.length_pos_iff.2 ha0
        have paI : (((tr a).length : Int) == 0) = false := by simp; omega
        refine spec_at Try.func3 ok_law11_ZgcdCommon [] rfl (by simp) ?_
        unfold sc_law11_ZgcdCommon
        refine WS_seq (WS_reg [] ?_); simp [xl, yl, paI]
        refine WS_seq (WS_reg [] ?_); simp [xl, yl, paI]
        refine callK aw ?_; simp [xl, yl, paI]
        refine WS_seq (WS_seq (WS_reg [] ?_)); simp [xl, yl, paI]
        refine callK sm ?_; simp [xl, yl, paI]
        refine WS_cond (t := false) (by simp [xl, yl, paI]) (fun h => by cases h) (fun _ => ?_)
        refine WS_skip ?_; simp [xl, yl, paI]
        refine WS_seq (WS_reg [] ?_); simp [xl, yl, paI]
        refine callK rs ?_; simp [xl, yl, paI]
        refine WS_seq (WS_seq (WS_reg [] ?_)); simp [xl, yl, paI]
        refine callK e1 ?_; simp [xl, yl, paI]
        refine callK e2 ?_; simp [xl, yl, paI]
        refine WS_cond (t := true) (by simp [xl, yl, paI]) (fun _ => ?_) (fun h => by cases h)
        refine WS_seq (WS_reg [] ?_); simp [xl, yl, paI]
        refine callK zs ?_; simp [xl, yl, paI]
        refine WS_ret ?_; simp [xl, yl, paI]
      · have hg := rsZ_gd ha0 hb0
        have pa := List.length_pos_iff.2 ha0
        have pb := List.length_pos_iff.2 hb0
        have paI : (((tr a).length : Int) == 0) = false := by simp; omega
        have pbI : (((tr b).length : Int) == 0) = false := by simp; omega
        have pa0 : ¬ (tr a).length = 0 := by omega
        have pb0 : ¬ (tr b).length = 0 := by omega
        have sb := sign_beq (rsZ a b)
        have hgI : decide (rsZ a b = 0) = decide ((1 : Int) < ((tr (gdZ a b)).length : Int)) := by
          rw [decide_eq_decide, hg]; omega
        rw [hgI] at sb
        obtain ⟨r, hr⟩ : ∃ r, r = rsZ a b := ⟨_, rfl⟩
        rw [← hr] at rs zs sb
        obtain ⟨X, hX⟩ : ∃ X, X = PZ (tr a) := ⟨_, rfl⟩
        rw [← hX] at e1 xl
        obtain ⟨Y, hY⟩ : ∃ X, X = PZ (tr b) := ⟨_, rfl⟩
        rw [← hY] at e2 yl
        obtain ⟨G, hG⟩ : ∃ X, X = PZ (tr (gdZ a b)) := ⟨_, rfl⟩
        rw [← hG] at gc gl
        obtain ⟨n, hn⟩ : ∃ n, n = (tr (gdZ a b)).length := ⟨_, rfl⟩
        rw [← hn] at gl sb
        refine spec_at Try.func3 ok_law11_ZgcdCommon [] rfl (by simp) ?_
        unfold sc_law11_ZgcdCommon
        refine WS_seq (WS_reg [] ?_); simp [xl, yl, paI, pbI, pa0, pb0, gl, sb]
        refine WS_seq (WS_reg [] ?_); simp [xl, yl, paI, pbI, pa0, pb0, gl, sb]
        refine callK aw ?_; simp [xl, yl, paI, pbI, pa0, pb0, gl, sb]
        refine WS_seq (WS_seq (WS_reg [] ?_)); simp [xl, yl, paI, pbI, pa0, pb0, gl, sb]
        refine callK sm ?_; simp [xl, yl, paI, pbI, pa0, pb0, gl, sb]
        refine WS_cond (t := false) (by simp [xl, yl, paI, pbI, pa0, pb0, gl, sb]) (fun h => by cases h) (fun _ => ?_)
        refine WS_skip ?_; simp [xl, yl, paI, pbI, pa0, pb0, gl, sb]
        refine WS_seq (WS_reg [] ?_); simp [xl, yl, paI, pbI, pa0, pb0, gl, sb]
        refine callK rs ?_; simp [xl, yl, paI, pbI, pa0, pb0, gl, sb]
        refine WS_seq (WS_seq (WS_reg [] ?_)); simp [xl, yl, paI, pbI, pa0, pb0, gl, sb]
        refine callK e1 ?_; simp [xl, yl, paI, pbI, pa0, pb0, gl, sb]
        refine callK e2 ?_; simp [xl, yl, paI, pbI, pa0, pb0, gl, sb]
        refine WS_cond (t := false) (by simp [xl, yl, paI, pbI, pa0, pb0, gl, sb]) (fun h => by cases h) (fun _ => ?_)
        refine WS_skip ?_; simp [xl, yl, paI, pbI, pa0, pb0, gl, sb]
        refine WS_seq (WS_reg [] ?_); simp [xl, yl, paI, pbI, pa0, pb0, gl, sb]
        refine callK zs ?_; simp [xl, yl, paI, pbI, pa0, pb0, gl, sb]
        refine callK gc ?_; simp [xl, yl, paI, pbI, pa0, pb0, gl, sb]
        refine WS_ret ?_; simp [xl, yl, paI, pbI, pa0, pb0, gl, sb]
  · have hs' : smB 7 1 [M1, M2] = false := by simpa using hs
    rw [hs'] at sm
    refine spec_at Try.func3 ok_law11_ZgcdCommon [] rfl (by simp) ?_
    unfold sc_law11_ZgcdCommon
    refine WS_seq (WS_reg [] ?_); simp
    refine WS_seq (WS_reg [] ?_); simp
    refine callK aw ?_; simp
    refine WS_seq (WS_seq (WS_reg [] ?_)); simp
    refine callK sm ?_; simp
    refine WS_cond (t := true) (by simp) (fun _ => ?_) (fun h => by cases h)
    refine WS_seq (WS_reg [] ?_); simp
    refine WS_ret ?_; simp
end Go.Vw
namespace Go.Vw
open Go.Proofs Go.Py Go.Dt

attribute [local simp] RunL_cons RunL_nil AOp_none AOp_some acK_v acK_call agK_tt agK_ff agK_tf agK_ft agK_tup agK_i aop aun St.ev St.heap St.put thenQ blockQ scopeQ upd_apply S0 argSlot lowV V.cells V.isAgg V.fits V.part partOk plains St.ret retSV svOf svsOf retQ retP retAll retOne uL_length uL_get? uL_get St.elems retH ownIdx ownAt
attribute [local simp] RunD_none RunD_some RunD_nil RunE_any acD_v acD_call agD_tt agD_ff agD_tf agD_ft agD_tup entsOf svref SO.opds SO.writes SO.makes callEnt pureSV pureOf RV.isOwn
attribute [local simp] abin_add abin_sub abin_mul abin_quo abin_rem abin_eql abin_neq abin_lss abin_leq abin_gtr abin_geq
attribute [local simp] uL_snoc uL_set uL_take uL_drop uL_append uL_replicate uL_nil
attribute [local simp] acK_callG acD_callG St.giv gsSV gvSV retEnts ownEnts SO.still
attribute [local simp] S0G argSlotG givSV retQG retPG retAllG retOneG HObj.width V.scalar trimQ V.byte
attribute [local simp] zv V.fits fillOk fillV Z_eq
set_option maxRecDepth 20000 in
set_option maxHeartbeats 8000000 in
theorem law_ZgcdProducts (M1 M2 M3 : List (Bool × List Nat)) (h1 : PW (2 ^ 24) M1) (h2 : PW (2 ^ 24) M2) (h3 : PW (2 ^ 24) M3) (nx : Bool) (lx : List Nat) (hx : ZW (2 ^ 24) lx) :
    Spec Try.prog f_law11_ZgcdProducts [.sl (some 2) (zL M1), .sl (some 2) (zL M2), .sl (some 2) (zL M3), zv nx lx] (· = [.pure (.b true)]) := by
  have aw := awake11
  have sm := small11 5 1 (by omega) (by omega) [M1, M2, M3, [(nx, lx)]] (by simp) (by
    intro M hM
    simp only [List.mem_cons, List.not_mem_nil, or_false] at hM
    rcases hM with rfl | rfl | rfl | rfl
    · have := h1.len; omega
    · have := h2.len; omega
    · have := h3.len; omega
    · simp)
  have eL : mL [M1, M2, M3, [(nx, lx)]] = [.sl (some 2) (zL M1), .sl (some 2) (zL M2), .sl (some 2) (zL M3), .sl (some 2) [.agg [.b nx, .sl none (uL lx)]]] := rfl
  rw [eL] at sm
  by_cases hs : smB 5 1 [M1, M2, M3, [(nx, lx)]] = true
  · obtain ⟨ia, la⟩ := isP_small h1.each (small_of hs (by simp))
    obtain ⟨ib, lb⟩ := isP_small h2.each (small_of hs (by simp))
    obtain ⟨ic, lc⟩ := isP_small h3.each (small_of hs (by simp))
    have hsx := small_of hs (show [(nx, lx)] ∈ [M1, M2, M3, [(nx, lx)]] by simp)
    simp only [Bool.and_eq_true, decide_eq_true_eq, smR, List.all_eq_true] at hsx
    have lx1 : lx.length ≤ 1 := hsx.2 (nx, lx) (by simp)
    have ix : IsZ 1 (zv nx lx) (zi nx lx) := isZ_zv ⟨hx.dl, lx1⟩
    have zx := ix.zlen
    rw [hs] at sm
    obtain ⟨a, ea⟩ : ∃ a, a = piL M1 := ⟨_, rfl⟩
    obtain ⟨b, eb⟩ : ∃ a, a = piL M2 := ⟨_, rfl⟩
    obtain ⟨c, ec⟩ : ∃ a, a = piL M3 := ⟨_, rfl⟩
    obtain ⟨x, ex⟩ : ∃ a, a = zi nx lx := ⟨_, rfl⟩
    rw [← ea] at ia
    rw [← eb] at ib
    rw [← ec] at ic
    rw [← ex] at ix zx
    obtain ⟨A, eA⟩ : ∃ A, A = zL M1 := ⟨_, rfl⟩
    obtain ⟨B, eB⟩ : ∃ A, A = zL M2 := ⟨_, rfl⟩
    obtain ⟨C, eC⟩ : ∃ A, A = zL M3 := ⟨_, rfl⟩
    rw [← eA] at ia la sm ⊢
    rw [← eB] at ib lb sm ⊢
    rw [← eC] at ic lc sm ⊢
    clear eA eB eC eL h1 h2 h3 ea eb ec hs hsx M1 M2 M3
    have al := ia.len
    have bl := ib.len
    have cl := ic.len
    have r1 := gres (L := 5) ia ic (by omega) (by omega) (by omega) (by omega) (by omega) (by decide)
    have r2 := gres (L := 5) ib ic (by omega) (by omega) (by omega) (by omega) (by omega) (by decide)
    have r4 := gres (L := 5) ic ia (by omega) (by omega) (by omega) (by omega) (by omega) (by decide)
    have pm := pl_mul3 ia.pl ib.pl (by omega)
    have lm : (tr (mulL a b)).length ≤ 9 := by
      by_cases h0 : tr a = []
      · rw [tr_mulL_nil.2 (.inl h0)]; simp
      by_cases h0' : tr b = []
      · rw [tr_mulL_nil.2 (.inr h0')]; simp
      have := tr_mulL_len h0 h0'
      have := tr_len a
      have := tr_len b
      omega
    have r3 := gres (L := 9) (isP_PZ pm) ((ic : IsP 1 C c).mono (show 1 ≤ 3 by omega)) (by rw [PZ_length]; exact lm) (by omega) (by omega) (by omega) (by omega) (by decide)
    have p5 : PL 1 [-x, 1] := fun i => by
      match i with
      | 0 => show zlen (-x) ≤ 1; rw [zlen_neg]; exact zx
      | 1 => exact zlen_one
      | i + 2 => show zlen 0 ≤ 1; decide
    have r5 := gres (L := 5) (isP_PZ p5) ia (by rw [PZ_length]; simp) (by omega) (by omega) (by omega) (by omega) (by decide)
    have i1 := rsZ_lim (L := 5) ia.pl ic.pl (by omega) (by omega) (by omega) (by omega) (by omega) (by decide)
    have i2 := rsZ_lim (L := 5) ib.pl ic.pl (by omega) (by omega) (by omega) (by omega) (by omega) (by decide)
    have i4 := rsZ_lim (L := 5) ic.pl ia.pl (by omega) (by omega) (by omega) (by omega) (by omega) (by decide)
    have ga : Rd 3 A a := ⟨ia.mono (by omega), by omega⟩
    have gb : Rd 3 B b := ⟨ib.mono (by omega), by omega⟩
    have mu := ymul ga gb (by omega)
    have ng := zneg ix (by omega)
    have o1 := zof 1 (by omega) (by omega)
    have e1 := own_plain (pnorm ia (by omega) (by omega))
    have e2 := own_plain (pnorm ic (by omega) (by omega))
    have nc := zneg (isZ_of i4) (by omega)
    have m2 := zmul (isZ_of i1) (isZ_of i2) (by omega)
    have z2 := zlen_mul (rsZ a c) (rsZ b c)
    have q1 := rsame2 (x := rsZ a c * rsZ b c) (k := 2 ^ 23) (by omega) (by omega)
    have q2 := rsame2 (x := rsZ a c) i1 (by omega)
    have ev := peval ia ix (by omega) (by omega) (by omega) (by omega)
    have i5 := rsZ_lim (L := 5) p5 ia.pl (by simp) (by omega) (by omega) (by omega) (by omega) (by decide)
    rw [rsZ_val] at r5 i5
    have q3 := rsame2 (x := evL x a) i5 (by omega)
    rw [rsZ_eqp (cf_tr (mulL a b)) Eqp.rfl', rsZ_mul] at r3
    have xl := PZ_length (tr a)
    have yl := PZ_length (tr c)
    have tla := tr_len a
    have tlc := tr_len c
    have hsw := @rsZ_swap a c
    rw [show PZ [-x, 1] = [Z (-x), Z 1] from rfl] at r5
    obtain ⟨v, hv⟩ : ∃ v, v = evL x a := ⟨_, rfl⟩
    rw [← hv] at r5 ev q3
    obtain ⟨ac, hac⟩ : ∃ v, v = rsZ a c := ⟨_, rfl⟩
    rw [← hac] at r1 r3 m2 q1 q2 hsw
    obtain ⟨bc, hbc⟩ : ∃ v, v = rsZ b c := ⟨_, rfl⟩
    rw [← hbc] at r2 r3 m2 q1
    obtain ⟨abc, habc⟩ : ∃ v, v = ac * bc := ⟨_, rfl⟩
    rw [← habc] at r3 m2 q1
    obtain ⟨ca, hca⟩ : ∃ v, v = rsZ c a := ⟨_, rfl⟩
    rw [← hca] at r4 nc hsw
    obtain ⟨W, hW⟩ : ∃ X, X = PZ (tr (mulL a b)) := ⟨_, rfl⟩
    rw [← hW] at mu r3
    have v1 : IntKind.i64.wrap (((tr a).length : Int) - 1) = ((tr a).length : Int) - 1 := i64_int _ (by omega) (by omega)
    have v2 : IntKind.i64.wrap (((tr c).length : Int) - 1) = ((tr c).length : Int) - 1 := i64_int _ (by omega) (by omega)
    have u1 : -1 ≤ ((tr a).length : Int) - 1 ∧ ((tr a).length : Int) - 1 ≤ 4 := by omega
    have u2 : -1 ≤ ((tr c).length : Int) - 1 ∧ ((tr c).length : Int) - 1 ≤ 4 := by omega
    have v3 : IntKind.i64.wrap ((((tr a).length : Int) - 1) * (((tr c).length : Int) - 1)) = (((tr a).length : Int) - 1) * (((tr c).length : Int) - 1) := by
      obtain ⟨p, hp⟩ : ∃ p, p = ((tr a).length : Int) - 1 := ⟨_, rfl⟩
      obtain ⟨q, hq⟩ : ∃ p, p = ((tr c).length : Int) - 1 := ⟨_, rfl⟩
      rw [← hp] at u1 ⊢
      rw [← hq] at u2 ⊢
      have b1 : p * q ≤ 16 := by
        rcases (show p = -1 ∨ p = 0 ∨ p = 1 ∨ p = 2 ∨ p = 3 ∨ p = 4 by omega) with h | h | h | h | h | h <;> subst h <;> omega
      have b2 : -16 ≤ p * q := by
        rcases (show p = -1 ∨ p = 0 ∨ p = 1 ∨ p = 2 ∨ p = 3 ∨ p = 4 by omega) with h | h | h | h | h | h <;> subst h <;> omega
      exact i64_int _ (by omega) (by omega)
    have hswI : ¬ tr a = [] → ¬ tr c = [] → ac = if ((((tr a).length : Int) - 1) * (((tr c).length : Int) - 1)).tmod 2 = 0 then ca else -ca := by
      intro ha hc
      have h1 := List.length_pos_iff.2 ha
      have h2 := List.length_pos_iff.2 hc
      obtain ⟨p, hp⟩ : ∃ p, (tr a).length = p + 1 := ⟨(tr a).length - 1, by omega⟩
      obtain ⟨q, hq⟩ : ∃ p, (tr c).length = p + 1 := ⟨(tr c).length - 1, by omega⟩
      rw [hsw ha hc, hp, hq, odd_mul, Nat.add_sub_cancel, Nat.add_sub_cancel]
      by_cases h : p % 2 = 1 ∧ q % 2 = 1
      · rw [if_pos h, if_neg (by have := odd_and.2 h; omega)]
      · rw [if_neg h, if_pos (by have := mt odd_and.1 h; omega)]
    have zA : tr a = [] ↔ (tr a).length = 0 := by rw [List.length_eq_zero_iff]
    have zC : tr c = [] ↔ (tr c).length = 0 := by rw [List.length_eq_zero_iff]
    obtain ⟨m, hm⟩ : ∃ m, m = (tr a).length := ⟨_, rfl⟩
    obtain ⟨n, hn⟩ : ∃ m, m = (tr c).length := ⟨_, rfl⟩
    rw [← hm] at xl v1 v3 hswI zA
    rw [← hn] at yl v2 v3 hswI zC
    obtain ⟨X, hX⟩ : ∃ X, X = PZ (tr a) := ⟨_, rfl⟩
    rw [← hX] at e1 xl
    obtain ⟨Y, hY⟩ : ∃ X, X = PZ (tr c) := ⟨_, rfl⟩
    rw [← hY] at e2 yl
    obtain ⟨t, ht⟩ : ∃ t, t = (((m : Int) - 1) * ((n : Int) - 1)).tmod 2 := ⟨_, rfl⟩
    rw [← ht] at hswI
    clear hsw u1 u2 i1 i2 i4 i5 z2 hm hn hX hY hW hca hbc habc hac hv zx ga gb p5 pm lm al bl cl la lb lc tla tlc
    have nd : [V.agg [.b (zn (-x)), .sl none (uL (zl (-x)))], V.agg [.b (zn 1), .sl none (uL (zl 1))]] = [Z (-x), Z 1] := rfl
    by_cases htt : t = 0
    · have tt : ((((m : Int) - 1) * ((n : Int) - 1)).tmod 2 != 0) = false := by rw [← ht]; simp [htt]
      have ttN : (((m : Int) - 1) * ((n : Int) - 1)).tmod 2 = 0 := by rw [← ht]; exact htt
      by_cases m0 : m = 0
      · have mI : ((m : Int) == 0) = true := by simp; omega
        refine spec_at Try.func4 ok_law11_ZgcdProducts [] rfl (by simp) ?_
        unfold sc_law11_ZgcdProducts
        refine WS_seq (WS_reg [] ?_); simp [xl, yl, v1, v2, v3, tt, ttN, mI]
        refine WS_seq (WS_reg [] ?_); simp [xl, yl, v1, v2, v3, tt, ttN, mI]
        refine callK aw ?_; simp [xl, yl, v1, v2, v3, tt, ttN, mI]
        refine WS_seq (WS_seq (WS_reg [] ?_)); simp [xl, yl, v1, v2, v3, tt, ttN, mI]
        refine callK sm ?_; simp [xl, yl, v1, v2, v3, tt, ttN, mI]
        refine WS_cond (t := false) (by simp [xl, yl, v1, v2, v3, tt, ttN, mI]) (fun h => by cases h) (fun _ => ?_)
        refine WS_skip ?_; simp [xl, yl, v1, v2, v3, tt, ttN, mI]
        refine WS_seq (WS_reg [] ?_); simp [xl, yl, v1, v2, v3, tt, ttN, mI]
        refine callK r1 ?_; simp [xl, yl, v1, v2, v3, tt, ttN, mI]
        refine WS_seq (WS_reg [] ?_); simp [xl, yl, v1, v2, v3, tt, ttN, mI]
        refine callK r2 ?_; simp [xl, yl, v1, v2, v3, tt, ttN, mI]
        refine WS_seq (WS_reg [] ?_); simp [xl, yl, v1, v2, v3, tt, ttN, mI]
        refine callK mu ?_; simp [xl, yl, v1, v2, v3, tt, ttN, mI]
        refine callK r3 ?_; simp [xl, yl, v1, v2, v3, tt, ttN, mI]
        refine WS_seq (WS_reg [] ?_); simp [xl, yl, v1, v2, v3, tt, ttN, mI]
        refine callK r4 ?_; simp [xl, yl, v1, v2, v3, tt, ttN, mI]
        refine WS_seq (WS_reg [] ?_); simp [xl, yl, v1, v2, v3, tt, ttN, mI]
        refine callK ng ?_; simp [xl, yl, v1, v2, v3, tt, ttN, mI]
        refine callK o1 ?_; simp [xl, yl, v1, v2, v3, tt, ttN, mI]
        refine callK r5 ?_; simp [xl, yl, v1, v2, v3, tt, ttN, mI]
        refine WS_seq (WS_seq (WS_reg [] ?_)); simp [xl, yl, v1, v2, v3, tt, ttN, mI]
        refine callK e1 ?_; simp [xl, yl, v1, v2, v3, tt, ttN, mI]
        refine callK e2 ?_; simp [xl, yl, v1, v2, v3, tt, ttN, mI]
        refine WS_cond (t := false) (by simp [xl, yl, v1, v2, v3, tt, ttN, mI]) (fun h => by cases h) (fun _ => ?_)
        refine WS_skip ?_; simp [xl, yl, v1, v2, v3, tt, ttN, mI]
        refine WS_seq (WS_reg [] ?_); simp [xl, yl, v1, v2, v3, tt, ttN, mI]
        refine callK e1 ?_; simp [xl, yl, v1, v2, v3, tt, ttN, mI]
        refine WS_seq (WS_regD [] ?_); simp [xl, yl, v1, v2, v3, tt, ttN, mI]
        refine callD m2 rfl ?_; simp [xl, yl, v1, v2, v3, tt, ttN, mI]
        refine callD q1 rfl ?_; simp [xl, yl, v1, v2, v3, tt, ttN, mI]
        refine callD ev rfl ?_; simp [xl, yl, v1, v2, v3, tt, ttN, mI]
        refine callD q3 rfl ?_; simp [xl, yl, v1, v2, v3, tt, ttN, mI]
        refine ⟨rfl, ?_⟩
        refine WS_ret ?_; simp [xl, yl, v1, v2, v3, tt, ttN, mI]
      · by_cases n0 : n = 0
        · have mI : ((m : Int) == 0) = false := by simp; omega
          have nI : ((n : Int) == 0) = true := by simp; omega
          refine spec_at Try.func4 ok_law11_ZgcdProducts [] rfl (by simp) ?_
          unfold sc_law11_ZgcdProducts
          refine WS_seq (WS_reg [] ?_); simp [xl, yl, v1, v2, v3, tt, ttN, mI, nI]
          refine WS_seq (WS_reg [] ?_); simp [xl, yl, v1, v2, v3, tt, ttN, mI, nI]
          refine callK aw ?_; simp [xl, yl, v1, v2, v3, tt, ttN, mI, nI]
          refine WS_seq (WS_seq (WS_reg [] ?_)); simp [xl, yl, v1, v2, v3, tt, ttN, mI, nI]
          refine callK sm ?_; simp [xl, yl, v1, v2, v3, tt, ttN, mI, nI]
          refine WS_cond (t := false) (by simp [xl, yl, v1, v2, v3, tt, ttN, mI, nI]) (fun h => by cases h) (fun _ => ?_)
          refine WS_skip ?_; simp [xl, yl, v1, v2, v3, tt, ttN, mI, nI]
          refine WS_seq (WS_reg [] ?_); simp [xl, yl, v1, v2, v3, tt, ttN, mI, nI]
          refine callK r1 ?_; simp [xl, yl, v1, v2, v3, tt, ttN, mI, nI]
          refine WS_seq (WS_reg [] ?_); simp [xl, yl, v1, v2, v3, tt, ttN, mI, nI]
          refine callK r2 ?_; simp [xl, yl, v1, v2, v3, tt, ttN, mI, nI]
          refine WS_seq (WS_reg [] ?_); simp [xl, yl, v1, v2, v3, tt, ttN, mI, nI]
          refine callK mu ?_; simp [xl, yl, v1, v2, v3, tt, ttN, mI, nI]
          refine callK r3 ?_; simp [xl, yl, v1, v2, v3, tt, ttN, mI, nI]
          refine WS_seq (WS_reg [] ?_); simp [xl, yl, v1, v2, v3, tt, ttN, mI, nI]
          refine callK r4 ?_; simp [xl, yl, v1, v2, v3, tt, ttN, mI, nI]
          refine WS_seq (WS_reg [] ?_); simp [xl, yl, v1, v2, v3, tt, ttN, mI, nI]
          refine callK ng ?_; simp [xl, yl, v1, v2, v3, tt, ttN, mI, nI]
          refine callK o1 ?_; simp [xl, yl, v1, v2, v3, tt, ttN, mI, nI]
          refine callK r5 ?_; simp [xl, yl, v1, v2, v3, tt, ttN, mI, nI]
          refine WS_seq (WS_seq (WS_reg [] ?_)); simp [xl, yl, v1, v2, v3, tt, ttN, mI, nI]
          refine callK e1 ?_; simp [xl, yl, v1, v2, v3, tt, ttN, mI, nI]
          refine callK e2 ?_; simp [xl, yl, v1, v2, v3, tt, ttN, mI, nI]
          refine WS_cond (t := false) (by simp [xl, yl, v1, v2, v3, tt, ttN, mI, nI]) (fun h => by cases h) (fun _ => ?_)
          refine WS_skip ?_; simp [xl, yl, v1, v2, v3, tt, ttN, mI, nI]
          refine WS_seq (WS_reg [] ?_); simp [xl, yl, v1, v2, v3, tt, ttN, mI, nI]
          refine callK e1 ?_; simp [xl, yl, v1, v2, v3, tt, ttN, mI, nI]
          refine callK e2 ?_; simp [xl, yl, v1, v2, v3, tt, ttN, mI, nI]
          refine WS_seq (WS_regD [] ?_); simp [xl, yl, v1, v2, v3, tt, ttN, mI, nI]
          refine callD m2 rfl ?_; simp [xl, yl, v1, v2, v3, tt, ttN, mI, nI]
          refine callD q1 rfl ?_; simp [xl, yl, v1, v2, v3, tt, ttN, mI, nI]
          refine callD ev rfl ?_; simp [xl, yl, v1, v2, v3, tt, ttN, mI, nI]
          refine callD q3 rfl ?_; simp [xl, yl, v1, v2, v3, tt, ttN, mI, nI]
          refine ⟨rfl, ?_⟩
          refine WS_ret ?_; simp [xl, yl, v1, v2, v3, tt, ttN, mI, nI]
        · have mI : ((m : Int) == 0) = false := by simp; omega
          have nI : ((n : Int) == 0) = false := by simp; omega
          have hq := hswI (fun h => m0 (zA.1 h)) (fun h => n0 (zC.1 h))
          rw [if_pos htt] at hq
          subst hq
          refine spec_at Try.func4 ok_law11_ZgcdProducts [] rfl (by simp) ?_
          unfold sc_law11_ZgcdProducts
          refine WS_seq (WS_reg [] ?_); simp [xl, yl, v1, v2, v3, tt, ttN, mI, nI]
          refine WS_seq (WS_reg [] ?_); simp [xl, yl, v1, v2, v3, tt, ttN, mI, nI]
          refine callK aw ?_; simp [xl, yl, v1, v2, v3, tt, ttN, mI, nI]
          refine WS_seq (WS_seq (WS_reg [] ?_)); simp [xl, yl, v1, v2, v3, tt, ttN, mI, nI]
          refine callK sm ?_; simp [xl, yl, v1, v2, v3, tt, ttN, mI, nI]
          refine WS_cond (t := false) (by simp [xl, yl, v1, v2, v3, tt, ttN, mI, nI]) (fun h => by cases h) (fun _ => ?_)
          refine WS_skip ?_; simp [xl, yl, v1, v2, v3, tt, ttN, mI, nI]
          refine WS_seq (WS_reg [] ?_); simp [xl, yl, v1, v2, v3, tt, ttN, mI, nI]
          refine callK r1 ?_; simp [xl, yl, v1, v2, v3, tt, ttN, mI, nI]
          refine WS_seq (WS_reg [] ?_); simp [xl, yl, v1, v2, v3, tt, ttN, mI, nI]
          refine callK r2 ?_; simp [xl, yl, v1, v2, v3, tt, ttN, mI, nI]
          refine WS_seq (WS_reg [] ?_); simp [xl, yl, v1, v2, v3, tt, ttN, mI, nI]
          refine callK mu ?_; simp [xl, yl, v1, v2, v3, tt, ttN, mI, nI]
          refine callK r3 ?_; simp [xl, yl, v1, v2, v3, tt, ttN, mI, nI]
          refine WS_seq (WS_reg [] ?_); simp [xl, yl, v1, v2, v3, tt, ttN, mI, nI]
          refine callK r4 ?_; simp [xl, yl, v1, v2, v3, tt, ttN, mI, nI]
          refine WS_seq (WS_reg [] ?_); simp [xl, yl, v1, v2, v3, tt, ttN, mI, nI]
          refine callK ng ?_; simp [xl, yl, v1, v2, v3, tt, ttN, mI, nI]
          refine callK o1 ?_; simp [xl, yl, v1, v2, v3, tt, ttN, mI, nI]
          refine callK r5 ?_; simp [xl, yl, v1, v2, v3, tt, ttN, mI, nI]
          refine WS_seq (WS_seq (WS_reg [] ?_)); simp [xl, yl, v1, v2, v3, tt, ttN, mI, nI]
          refine callK e1 ?_; simp [xl, yl, v1, v2, v3, tt, ttN, mI, nI]
          refine callK e2 ?_; simp [xl, yl, v1, v2, v3, tt, ttN, mI, nI]
          refine WS_cond (t := false) (by simp [xl, yl, v1, v2, v3, tt, ttN, mI, nI]) (fun h => by cases h) (fun _ => ?_)
          refine WS_skip ?_; simp [xl, yl, v1, v2, v3, tt, ttN, mI, nI]
          refine WS_seq (WS_reg [] ?_); simp [xl, yl, v1, v2, v3, tt, ttN, mI, nI]
          refine callK e1 ?_; simp [xl, yl, v1, v2, v3, tt, ttN, mI, nI]
          refine callK e2 ?_; simp [xl, yl, v1, v2, v3, tt, ttN, mI, nI]
          refine WS_seq (WS_regD [] ?_); simp [xl, yl, v1, v2, v3, tt, ttN, mI, nI]
          refine callD m2 rfl ?_; simp [xl, yl, v1, v2, v3, tt, ttN, mI, nI]
          refine callD q1 rfl ?_; simp [xl, yl, v1, v2, v3, tt, ttN, mI, nI]
          refine callD q2 rfl ?_; simp [xl, yl, v1, v2, v3, tt, ttN, mI, nI]
          refine callD ev rfl ?_; simp [xl, yl, v1, v2, v3, tt, ttN, mI, nI]
          refine callD q3 rfl ?_; simp [xl, yl, v1, v2, v3, tt, ttN, mI, nI]
          refine ⟨rfl, ?_⟩
          refine WS_ret ?_; simp [xl, yl, v1, v2, v3, tt, ttN, mI, nI]
    · have tt : ((((m : Int) - 1) * ((n : Int) - 1)).tmod 2 != 0) = true := by rw [← ht]; simp [htt]
      have ttN : ¬ (((m : Int) - 1) * ((n : Int) - 1)).tmod 2 = 0 := by rw [← ht]; exact htt
      by_cases m0 : m = 0
      · have mI : ((m : Int) == 0) = true := by simp; omega
        refine spec_at Try.func4 ok_law11_ZgcdProducts [] rfl (by simp) ?_
        unfold sc_law11_ZgcdProducts
        refine WS_seq (WS_reg [] ?_); simp [xl, yl, v1, v2, v3, tt, ttN, mI]
        refine WS_seq (WS_reg [] ?_); simp [xl, yl, v1, v2, v3, tt, ttN, mI]
        refine callK aw ?_; simp [xl, yl, v1, v2, v3, tt, ttN, mI]
        refine WS_seq (WS_seq (WS_reg [] ?_)); simp [xl, yl, v1, v2, v3, tt, ttN, mI]
        refine callK sm ?_; simp [xl, yl, v1, v2, v3, tt, ttN, mI]
        refine WS_cond (t := false) (by simp [xl, yl, v1, v2, v3, tt, ttN, mI]) (fun h => by cases h) (fun _ => ?_)
        refine WS_skip ?_; simp [xl, yl, v1, v2, v3, tt, ttN, mI]
        refine WS_seq (WS_reg [] ?_); simp [xl, yl, v1, v2, v3, tt, ttN, mI]
        refine callK r1 ?_; simp [xl, yl, v1, v2, v3, tt, ttN, mI]
        refine WS_seq (WS_reg [] ?_); simp [xl, yl, v1, v2, v3, tt, ttN, mI]
        refine callK r2 ?_; simp [xl, yl, v1, v2, v3, tt, ttN, mI]
        refine WS_seq (WS_reg [] ?_); simp [xl, yl, v1, v2, v3, tt, ttN, mI]
        refine callK mu ?_; simp [xl, yl, v1, v2, v3, tt, ttN, mI]
        refine callK r3 ?_; simp [xl, yl, v1, v2, v3, tt, ttN, mI]
        refine WS_seq (WS_reg [] ?_); simp [xl, yl, v1, v2, v3, tt, ttN, mI]
        refine callK r4 ?_; simp [xl, yl, v1, v2, v3, tt, ttN, mI]
        refine WS_seq (WS_reg [] ?_); simp [xl, yl, v1, v2, v3, tt, ttN, mI]
        refine callK ng ?_; simp [xl, yl, v1, v2, v3, tt, ttN, mI]
        refine callK o1 ?_; simp [xl, yl, v1, v2, v3, tt, ttN, mI]
        refine callK r5 ?_; simp [xl, yl, v1, v2, v3, tt, ttN, mI]
        refine WS_seq (WS_seq (WS_reg [] ?_)); simp [xl, yl, v1, v2, v3, tt, ttN, mI]
        refine callK e1 ?_; simp [xl, yl, v1, v2, v3, tt, ttN, mI]
        refine callK e2 ?_; simp [xl, yl, v1, v2, v3, tt, ttN, mI]
        refine WS_cond (t := true) (by simp [xl, yl, v1, v2, v3, tt, ttN, mI]) (fun _ => ?_) (fun h => by cases h)
        refine WS_reg [] ?_; simp [xl, yl, v1, v2, v3, tt, ttN, mI]
        refine callK nc ?_; simp [xl, yl, v1, v2, v3, tt, ttN, mI]
        refine WS_seq (WS_reg [] ?_); simp [xl, yl, v1, v2, v3, tt, ttN, mI]
        refine callK e1 ?_; simp [xl, yl, v1, v2, v3, tt, ttN, mI]
        refine WS_seq (WS_regD [] ?_); simp [xl, yl, v1, v2, v3, tt, ttN, mI]
        refine callD m2 rfl ?_; simp [xl, yl, v1, v2, v3, tt, ttN, mI]
        refine callD q1 rfl ?_; simp [xl, yl, v1, v2, v3, tt, ttN, mI]
        refine callD ev rfl ?_; simp [xl, yl, v1, v2, v3, tt, ttN, mI]
        refine callD q3 rfl ?_; simp [xl, yl, v1, v2, v3, tt, ttN, mI]
        refine ⟨rfl, ?_⟩
        refine WS_ret ?_; simp [xl, yl, v1, v2, v3, tt, ttN, mI]
      · by_cases n0 : n = 0
        · have mI : ((m : Int) == 0) = false := by simp; omega
          have nI : ((n : Int) == 0) = true := by simp; omega
          refine spec_at Try.func4 ok_law11_ZgcdProducts [] rfl (by simp) ?_
          unfold sc_law11_ZgcdProducts
          refine WS_seq (WS_reg [] ?_); simp [xl, yl, v1, v2, v3, tt, ttN, mI, nI]
          refine WS_seq (WS_reg [] ?_); simp [xl, yl, v1, v2, v3, tt, ttN, mI, nI]
          refine callK aw ?_; simp [xl, yl, v1, v2, v3, tt, ttN, mI, nI]
          refine WS_seq (WS_seq (WS_reg [] ?_)); simp [xl, yl, v1, v2, v3, tt, ttN, mI, nI]
          refine callK sm ?_; simp [xl, yl, v1, v2, v3, tt, ttN, mI, nI]
          refine WS_cond (t := false) (by simp [xl, yl, v1, v2, v3, tt, ttN, mI, nI]) (fun h => by cases h) (fun _ => ?_)
          refine WS_skip ?_; simp [xl, yl, v1, v2, v3, tt, ttN, mI, nI]
          refine WS_seq (WS_reg [] ?_); simp [xl, yl, v1, v2, v3, tt, ttN, mI, nI]
          refine callK r1 ?_; simp [xl, yl, v1, v2, v3, tt, ttN, mI, nI]
          refine WS_seq (WS_reg [] ?_); simp [xl, yl, v1, v2, v3, tt, ttN, mI, nI]
          refine callK r2 ?_; simp [xl, yl, v1, v2, v3, tt, ttN, mI, nI]
          refine WS_seq (WS_reg [] ?_); simp [xl, yl, v1, v2, v3, tt, ttN, mI, nI]
          refine callK mu ?_; simp [xl, yl, v1, v2, v3, tt, ttN, mI, nI]
          refine callK r3 ?_; simp [xl, yl, v1, v2, v3, tt, ttN, mI, nI]
          refine WS_seq (WS_reg [] ?_); simp [xl, yl, v1, v2, v3, tt, ttN, mI, nI]
          refine callK r4 ?_; simp [xl, yl, v1, v2, v3, tt, ttN, mI, nI]
          refine WS_seq (WS_reg [] ?_); simp [xl, yl, v1, v2, v3, tt, ttN, mI, nI]
          refine callK ng ?_; simp [xl, yl, v1, v2, v3, tt, ttN, mI, nI]
          refine callK o1 ?_; simp [xl, yl, v1, v2, v3, tt, ttN, mI, nI]
          refine callK r5 ?_; simp [xl, yl, v1, v2, v3, tt, ttN, mI, nI]
          refine WS_seq (WS_seq (WS_reg [] ?_)); simp [xl, yl, v1, v2, v3, tt, ttN, mI, nI]
          refine callK e1 ?_; simp [xl, yl, v1, v2, v3, tt, ttN, mI, nI]
          refine callK e2 ?_; simp [xl, yl, v1, v2, v3, tt, ttN, mI, nI]
          refine WS_cond (t := true) (by simp [xl, yl, v1, v2, v3, tt, ttN, mI, nI]) (fun _ => ?_) (fun h => by cases h)
          refine WS_reg [] ?_; simp [xl, yl, v1, v2, v3, tt, ttN, mI, nI]
          refine callK nc ?_; simp [xl, yl, v1, v2, v3, tt, ttN, mI, nI]
          refine WS_seq (WS_reg [] ?_); simp [xl, yl, v1, v2, v3, tt, ttN, mI, nI]
          refine callK e1 ?_; simp [xl, yl, v1, v2, v3, tt, ttN, mI, nI]
          refine callK e2 ?_; simp [xl, yl, v1, v2, v3, tt, ttN, mI, nI]
          refine WS_seq (WS_regD [] ?_); simp [xl, yl, v1, v2, v3, tt, ttN, mI, nI]
          refine callD m2 rfl ?_; simp [xl, yl, v1, v2, v3, tt, ttN, mI, nI]
          refine callD q1 rfl ?_; simp [xl, yl, v1, v2, v3, tt, ttN, mI, nI]
          refine callD ev rfl ?_; simp [xl, yl, v1, v2, v3, tt, ttN, mI, nI]
          refine callD q3 rfl ?_; simp [xl, yl, v1, v2, v3, tt, ttN, mI, nI]
          refine ⟨rfl, ?_⟩
          refine WS_ret ?_; simp [xl, yl, v1, v2, v3, tt, ttN, mI, nI]
        · have mI : ((m : Int) == 0) = false := by simp; omega
          have nI : ((n : Int) == 0) = false := by simp; omega
          have hq := hswI (fun h => m0 (zA.1 h)) (fun h => n0 (zC.1 h))
          rw [if_neg htt] at hq
          subst hq
          refine spec_at Try.func4 ok_law11_ZgcdProducts [] rfl (by simp) ?_
          unfold sc_law11_ZgcdProducts
          refine WS_seq (WS_reg [] ?_); simp [xl, yl, v1, v2, v3, tt, ttN, mI, nI]
          refine WS_seq (WS_reg [] ?_); simp [xl, yl, v1, v2, v3, tt, ttN, mI, nI]
          refine callK aw ?_; simp [xl, yl, v1, v2, v3, tt, ttN, mI, nI]
          refine WS_seq (WS_seq (WS_reg [] ?_)); simp [xl, yl, v1, v2, v3, tt, ttN, mI, nI]
          refine callK sm ?_; simp [xl, yl, v1, v2, v3, tt, ttN, mI, nI]
          refine WS_cond (t := false) (by simp [xl, yl, v1, v2, v3, tt, ttN, mI, nI]) (fun h => by cases h) (fun _ => ?_)
          refine WS_skip ?_; simp [xl, yl, v1, v2, v3, tt, ttN, mI, nI]
          refine WS_seq (WS_reg [] ?_); simp [xl, yl, v1, v2, v3, tt, ttN, mI, nI]
          refine callK r1 ?_; simp [xl, yl, v1, v2, v3, tt, ttN, mI, nI]
          refine WS_seq (WS_reg [] ?_); simp [xl, yl, v1, v2, v3, tt, ttN, mI, nI]
          refine callK r2 ?_; simp [xl, yl, v1, v2, v3, tt, ttN, mI, nI]
          refine WS_seq (WS_reg [] ?_); simp [xl, yl, v1, v2, v3, tt, ttN, mI, nI]
          refine callK mu ?_; simp [xl, yl, v1, v2, v3, tt, ttN, mI, nI]
          refine callK r3 ?_; simp [xl, yl, v1, v2, v3, tt, ttN, mI, nI]
          refine WS_seq (WS_reg [] ?_); simp [xl, yl, v1, v2, v3, tt, ttN, mI, nI]
          refine callK r4 ?_; simp [xl, yl, v1, v2, v3, tt, ttN, mI, nI]
          refine WS_seq (WS_reg [] ?_); simp [xl, yl, v1, v2, v3, tt, ttN, mI, nI]
          refine callK ng ?_; simp [xl, yl, v1, v2, v3, tt, ttN, mI, nI]
          refine callK o1 ?_; simp [xl, yl, v1, v2, v3, tt, ttN, mI, nI]
          refine callK r5 ?_; simp [xl, yl, v1, v2, v3, tt, ttN, mI, nI]
          refine WS_seq (WS_seq (WS_reg [] ?_)); simp [xl, yl, v1, v2, v3, tt, ttN, mI, nI]
          refine callK e1 ?_; simp [xl, yl, v1, v2, v3, tt, ttN, mI, nI]
          refine callK e2 ?_; simp [xl, yl, v1, v2, v3, tt, ttN, mI, nI]
          refine WS_cond (t := true) (by simp [xl, yl, v1, v2, v3, tt, ttN, mI, nI]) (fun _ => ?_) (fun h => by cases h)
          refine WS_reg [] ?_; simp [xl, yl, v1, v2, v3, tt, ttN, mI, nI]
          refine callK nc ?_; simp [xl, yl, v1, v2, v3, tt, ttN, mI, nI]
          refine WS_seq (WS_reg [] ?_); simp [xl, yl, v1, v2, v3, tt, ttN, mI, nI]
          refine callK e1 ?_; simp [xl, yl, v1, v2, v3, tt, ttN, mI, nI]
          refine callK e2 ?_; simp [xl, yl, v1, v2, v3, tt, ttN, mI, nI]
          refine WS_seq (WS_regD [] ?_); simp [xl, yl, v1, v2, v3, tt, ttN, mI, nI]
          refine callD m2 rfl ?_; simp [xl, yl, v1, v2, v3, tt, ttN, mI, nI]
          refine callD q1 rfl ?_; simp [xl, yl, v1, v2, v3, tt, ttN, mI, nI]
          refine callD q2 rfl ?_; simp [xl, yl, v1, v2, v3, tt, ttN, mI, nI]
          refine callD ev rfl ?_; simp [xl, yl, v1, v2, v3, tt, ttN, mI, nI]
          refine callD q3 rfl ?_; simp [xl, yl, v1, v2, v3, tt, ttN, mI, nI]
          refine ⟨rfl, ?_⟩
          refine WS_ret ?_; simp [xl, yl, v1, v2, v3, tt, ttN, mI, nI]
  · have hs' : smB 5 1 [M1, M2, M3, [(nx, lx)]] = false := by simpa using hs
    rw [hs'] at sm
    refine spec_at Try.func4 ok_law11_ZgcdProducts [] rfl (by simp) ?_
    unfold sc_law11_ZgcdProducts
    refine WS_seq (WS_reg [] ?_); simp
    refine WS_seq (WS_reg [] ?_); simp
    refine callK aw ?_; simp
    refine WS_seq (WS_seq (WS_reg [] ?_)); simp
    refine callK sm ?_; simp
    refine WS_cond (t := true) (by simp) (fun _ => ?_) (fun h => by cases h)
    refine WS_seq (WS_reg [] ?_); simp
    refine WS_ret ?_; simp
end Go.Vw

