/- The contracts of the laws of layer 10 and 11. -/
import Derived.Test.YtelkndcchjhgcaaGreatMA
import Derived.Test.YtelkndcchjhgcaaGreatMB
import Derived.Test.YtelkndcchjhgcaaGreatMC
import Derived.Test.YtelkndcchjhgcaaGreatMD
import Derived.Test.YtelkndcchjhgcaaGreatME
import Derived.Test.YtelkndcchjhgcaaGreatMF
import Derived.Test.YtelkndcchjhgcaaGreatMG
import Derived.Test.YtelkndcchjhgcaaGreatMP
set_option linter.unusedVariables false
set_option linter.unusedSimpArgs false
namespace Go.Vw
open Go.Proofs Go.Py

attribute [local simp] RunL_cons RunL_nil AOp_none AOp_some acK_v acK_call agK_tt agK_ff agK_tf agK_ft agK_tup agK_i aop aun St.ev St.heap St.put thenQ blockQ scopeQ upd_apply S0 argSlot lowV V.cells V.isAgg V.fits V.part partOk plains St.ret retSV svOf svsOf retQ retP retAll retOne uL_length uL_get? uL_get St.elems retH ownIdx ownAt
attribute [local simp] RunD_none RunD_some RunD_nil RunE_any acD_v acD_call agD_tt agD_ff agD_tf agD_ft agD_tup entsOf svref SO.opds SO.writes SO.makes callEnt pureSV pureOf RV.isOwn
attribute [local simp] abin_add abin_sub abin_mul abin_quo abin_rem abin_eql abin_neq abin_lss abin_leq abin_gtr abin_geq
attribute [local simp] uL_snoc uL_set uL_take uL_drop uL_append uL_replicate uL_nil
attribute [local simp] acK_callG acD_callG St.giv gsSV gvSV retEnts ownEnts SO.still
attribute [local simp] S0G argSlotG givSV retQG retPG retAllG retOneG HObj.width V.scalar trimQ V.byte
attribute [local simp] zv V.fits fillOk fillV Z_eq
theorem same10 (l : List Int) (hp : PL (2 ^ 40) l) (hn : l.length ≤ 2 ^ 40) : Spec Tryz.prog f_law10_same [.sl (some 2) (PZ l), .sl (some 2) (PZ l)] (· = [.pure (.b true)]) := by
  have sm := psame l hp hn
  obtain ⟨O, hO⟩ : ∃ O, O = PZ l := ⟨_, rfl⟩
  rw [← hO] at sm ⊢
  refine spec_at Tryz.func9 ok_law10_same [] rfl (by simp) ?_
  unfold sc_law10_same
  refine WS_seq (WS_reg [] ?_); simp
  refine WS_seq (WS_reg [] ?_); simp
  refine callK sm ?_; simp
  refine WS_ret ?_; simp

end Go.Vw
namespace Go.Vw
open Go.Proofs Go.Py

attribute [local simp] RunL_cons RunL_nil AOp_none AOp_some acK_v acK_call agK_tt agK_ff agK_tf agK_ft agK_tup agK_i aop aun St.ev St.heap St.put thenQ blockQ scopeQ upd_apply S0 argSlot lowV V.cells V.isAgg V.fits V.part partOk plains St.ret retSV svOf svsOf retQ retP retAll retOne uL_length uL_get? uL_get St.elems retH ownIdx ownAt
attribute [local simp] RunD_none RunD_some RunD_nil RunE_any acD_v acD_call agD_tt agD_ff agD_tf agD_ft agD_tup entsOf svref SO.opds SO.writes SO.makes callEnt pureSV pureOf RV.isOwn
attribute [local simp] abin_add abin_sub abin_mul abin_quo abin_rem abin_eql abin_neq abin_lss abin_leq abin_gtr abin_geq
attribute [local simp] uL_snoc uL_set uL_take uL_drop uL_append uL_replicate uL_nil
attribute [local simp] acK_callG acD_callG St.giv gsSV gvSV retEnts ownEnts SO.still
attribute [local simp] S0G argSlotG givSV retQG retPG retAllG retOneG HObj.width V.scalar trimQ V.byte
attribute [local simp] zv V.fits fillOk fillV Z_eq
set_option maxHeartbeats 1000000 in
theorem small10 (n w : Nat) (hn : n ≤ 2 ^ 40) (hw : w ≤ 2 ^ 40) (Ms : List (List (Bool × List Nat))) (hM : Ms.length ≤ 2 ^ 40) (hMs : ∀ M ∈ Ms, M.length ≤ 2 ^ 40) : Spec Tryz.prog f_law10_small [.i .i64 (n : Int), .i .i64 (w : Int), .sl none (mL Ms)] (· = [.pure (.b (smB n w Ms))]) := by
  have hml : (mL Ms).length = Ms.length := by simp [mL]
  refine spec_at Tryz.func8 ok_law10_small [] rfl (by simp) ?_
  unfold sc_law10_small
  refine WS_seq (WS_reg [] ?_); simp
  refine WS_seq (WS_seq (WS_reg [] ?_)); simp
  refine WS_block ?_
  refine WS_loop (SmS n w Ms) (fun S => Ms.length - nM 7 S) ⟨0, by omega, rfl, rfl, rfl, rfl, rfl⟩ ?_
  rintro S ⟨i, hi, s0, s1, s2, s7, hall⟩
  have d7 := nM_eq s7
  by_cases hlt : i < Ms.length
  · have hltI : (i : Int) < (Ms.length : Int) := by omega
    have hml2 : i < (mL Ms).length := by omega
    have hget : (mL Ms)[i] = .sl (some 2) (zL Ms[i]) := by simp [mL]
    have hmem := List.getElem_mem hlt
    have htk := List.take_succ_eq_append_getElem hlt
    obtain ⟨M, hMe⟩ : ∃ M, M = Ms[i] := ⟨_, rfl⟩
    rw [← hMe] at hget hmem htk
    have hMl := hMs M hmem
    have hzl : (zL M).length = M.length := by simp [zL]
    have wi := i64_succ i (by omega)
    obtain ⟨O, hO⟩ : ∃ O, O = mL Ms := ⟨_, rfl⟩
    have hOl : i < O.length := by rw [hO]; omega
    have hg2 : O[i] = .sl (some 2) (zL M) := by simp only [hO]; exact hget
    rw [← hO] at hml s2
    by_cases hb : M.length ≤ n
    · have hbI : ¬ (n : Int) < (M.length : Int) := by omega
      refine WS_seq (WS_seq (WS_reg [] ?_)); simp [s0, s1, s2, s7, hlt, hltI, hml, hg2, hzl, hbI]
      refine WS_cond (t := true) (by simp [s0, s1, s2, s7, hlt, hltI, hml, hg2, hzl, hbI]) (fun _ => ?_) (fun h => by cases h)
      refine WS_skip ?_; simp [s0, s1, s2, s7, hlt, hltI, hml, hg2, hzl, hbI]
      refine WS_seq (WS_block (WS_seq (WS_seq (WS_reg [] ?_)))); simp [s0, s1, s2, s7, hlt, hltI, hml, hg2, hzl, hbI]
      refine WS_cond (t := false) (by simp [s0, s1, s2, s7, hlt, hltI, hml, hg2, hzl, hbI]) (fun h => by cases h) (fun _ => ?_)
      refine WS_skip ?_; simp [s0, s1, s2, s7, hlt, hltI, hml, hg2, hzl, hbI]
      refine WS_seq (WS_reg [] ?_); simp [s0, s1, s2, s7, hlt, hltI, hml, hg2, hzl, hbI]
      refine WS_block ?_
      refine WS_loop (SmJ n w Ms i M) (fun S => M.length - nM 8 S) ⟨0, by omega, by simp, rfl, by simp [s0], by simp [s1], by simp [s2, hO], by simp [s7], hall⟩ ?_
      clear s0 s1 s2 s7
      rintro S' ⟨k, hk, s8, hr, s0, s1, s2, s7, -⟩
      have d8 := nM_eq s8
      rw [← hO] at s2
      by_cases hlt2 : k < M.length
      · have hltI2 : (k : Int) < (M.length : Int) := by omega
        have hzk : k < (zL M).length := by omega
        have hgk : (zL M)[k] = .agg [.b M[k].1, .sl none (uL M[k].2)] := by simp [zL]
        have htk2 := List.take_succ_eq_append_getElem hlt2
        have hmem2 := List.getElem_mem hlt2
        obtain ⟨p, hp⟩ : ∃ p, p = M[k] := ⟨_, rfl⟩
        rw [← hp] at hgk htk2 hmem2
        have wk := i64_succ k (by omega)
        obtain ⟨Z1, hZ1⟩ : ∃ O, O = zL M := ⟨_, rfl⟩
        have hZl : k < Z1.length := by rw [hZ1]; omega
        have hg3 : Z1[k] = .agg [.b p.1, .sl none (uL p.2)] := by simp only [hZ1]; exact hgk
        rw [← hZ1] at hzl hg2
        by_cases hq : p.2.length ≤ w
        · have hqI : ¬ (w : Int) < (p.2.length : Int) := by omega
          refine WS_seq (WS_seq (WS_reg [] ?_)); simp [s0, s1, s2, s7, s8, hlt, hltI, hlt2, hltI2, hml, hg2, hzl, hg3, hqI, wk]
          refine WS_cond (t := true) (by simp [s0, s1, s2, s7, s8, hlt, hltI, hlt2, hltI2, hml, hg2, hzl, hg3, hqI, wk]) (fun _ => ?_) (fun h => by cases h)
          refine WS_skip ?_; simp [s0, s1, s2, s7, s8, hlt, hltI, hlt2, hltI2, hml, hg2, hzl, hg3, hqI, wk]
          refine WS_seq (WS_block (WS_seq (WS_reg [] ?_))); simp [s0, s1, s2, s7, s8, hlt, hltI, hlt2, hltI2, hml, hg2, hzl, hg3, hqI, wk]
          refine WS_cond (t := false) (by simp [s0, s1, s2, s7, s8, hlt, hltI, hlt2, hltI2, hml, hg2, hzl, hg3, hqI, wk]) (fun h => by cases h) (fun _ => ?_)
          refine WS_skip ?_; simp [s0, s1, s2, s7, s8, hlt, hltI, hlt2, hltI2, hml, hg2, hzl, hg3, hqI, wk]
          refine WS_reg [] ?_; simp [s0, s1, s2, s7, s8, hlt, hltI, hlt2, hltI2, hml, hg2, hzl, hg3, hqI, wk]
          refine ⟨⟨k + 1, by omega, by simp, by rw [htk2]; exact smR_snoc hr hq, by simp [s0], by simp [s1], by simp [s2, hO], by simp [s7], hall⟩, ?_⟩
          show M.length - nM 8 _ < M.length - nM 8 S'
          rw [d8, nM_eq (i := 8) (n := k + 1) (by simp)]
          omega
        · have hqI : (w : Int) < (p.2.length : Int) := by omega
          have hno : smR w M = false := by
            rw [smR, List.all_eq_false]
            exact ⟨p, hmem2, by simp; omega⟩
          rw [smB_false hmem (by rw [hno, Bool.and_false])]
          refine WS_seq (WS_seq (WS_reg [] ?_)); simp [s0, s1, s2, s7, s8, hlt, hltI, hlt2, hltI2, hml, hg2, hzl, hg3, hqI, wk]
          refine WS_cond (t := true) (by simp [s0, s1, s2, s7, s8, hlt, hltI, hlt2, hltI2, hml, hg2, hzl, hg3, hqI, wk]) (fun _ => ?_) (fun h => by cases h)
          refine WS_skip ?_; simp [s0, s1, s2, s7, s8, hlt, hltI, hlt2, hltI2, hml, hg2, hzl, hg3, hqI, wk]
          refine WS_seq (WS_block (WS_seq (WS_reg [] ?_))); simp [s0, s1, s2, s7, s8, hlt, hltI, hlt2, hltI2, hml, hg2, hzl, hg3, hqI, wk]
          refine WS_cond (t := true) (by simp [s0, s1, s2, s7, s8, hlt, hltI, hlt2, hltI2, hml, hg2, hzl, hg3, hqI, wk]) (fun _ => ?_) (fun h => by cases h)
          refine WS_seq (WS_reg [] ?_); simp [s0, s1, s2, s7, s8, hlt, hltI, hlt2, hltI2, hml, hg2, hzl, hg3, hqI, wk]
          refine WS_ret ?_; simp [s0, s1, s2, s7, s8, hlt, hltI, hlt2, hltI2, hml, hg2, hzl, hg3, hqI, wk]
      · obtain rfl : k = M.length := by omega
        have hltI2 : ¬ (M.length : Int) < (M.length : Int) := by omega
        rw [List.take_length] at hr
        refine WS_seq (WS_seq (WS_reg [] ?_)); simp [s0, s1, s2, s7, s8, hlt, hltI, hltI2, hml, hg2, hzl, wi]
        refine WS_cond (t := false) (by simp [s0, s1, s2, s7, s8, hlt, hltI, hltI2, hml, hg2, hzl, wi]) (fun h => by cases h) (fun _ => ?_)
        refine WS_exit ?_; simp [s0, s1, s2, s7, s8, hlt, hltI, hltI2, hml, hg2, hzl, wi]
        refine WS_reg [] ?_; simp [s0, s1, s2, s7, s8, hlt, hltI, hltI2, hml, hg2, hzl, wi]
        refine ⟨⟨i + 1, by omega, by simp [s0], by simp [s1], by simp [s2, hO], by simp, by rw [htk]; exact smB_snoc hall hb hr⟩, ?_⟩
        show Ms.length - nM 7 _ < Ms.length - nM 7 S
        rw [d7, nM_eq (i := 7) (n := i + 1) (by simp)]
        omega
    · have hbI : (n : Int) < (M.length : Int) := by omega
      rw [smB_false hmem (by simp; omega)]
      refine WS_seq (WS_seq (WS_reg [] ?_)); simp [s0, s1, s2, s7, hlt, hltI, hml, hg2, hzl, hbI]
      refine WS_cond (t := true) (by simp [s0, s1, s2, s7, hlt, hltI, hml, hg2, hzl, hbI]) (fun _ => ?_) (fun h => by cases h)
      refine WS_skip ?_; simp [s0, s1, s2, s7, hlt, hltI, hml, hg2, hzl, hbI]
      refine WS_seq (WS_block (WS_seq (WS_seq (WS_reg [] ?_)))); simp [s0, s1, s2, s7, hlt, hltI, hml, hg2, hzl, hbI]
      refine WS_cond (t := true) (by simp [s0, s1, s2, s7, hlt, hltI, hml, hg2, hzl, hbI]) (fun _ => ?_) (fun h => by cases h)
      refine WS_seq (WS_reg [] ?_); simp [s0, s1, s2, s7, hlt, hltI, hml, hg2, hzl, hbI]
      refine WS_ret ?_; simp [s0, s1, s2, s7, hlt, hltI, hml, hg2, hzl, hbI]
  · obtain rfl : i = Ms.length := by omega
    have hltI : ¬ (Ms.length : Int) < (Ms.length : Int) := by omega
    rw [List.take_length] at hall
    rw [hall]
    refine WS_seq (WS_seq (WS_reg [] ?_)); simp [s0, s1, s2, s7, hltI, hml]
    refine WS_cond (t := false) (by simp [s0, s1, s2, s7, hltI, hml]) (fun h => by cases h) (fun _ => ?_)
    refine WS_exit ?_; simp [s0, s1, s2, s7, hltI, hml]
    refine WS_seq (WS_reg [] ?_); simp [s0, s1, s2, s7, hltI, hml]
    refine WS_ret ?_; simp [s0, s1, s2, s7, hltI, hml]
end Go.Vw
namespace Go.Vw
open Go.Proofs Go.Py

attribute [local simp] RunL_cons RunL_nil AOp_none AOp_some acK_v acK_call agK_tt agK_ff agK_tf agK_ft agK_tup agK_i aop aun St.ev St.heap St.put thenQ blockQ scopeQ upd_apply S0 argSlot lowV V.cells V.isAgg V.fits V.part partOk plains St.ret retSV svOf svsOf retQ retP retAll retOne uL_length uL_get? uL_get St.elems retH ownIdx ownAt
attribute [local simp] RunD_none RunD_some RunD_nil RunE_any acD_v acD_call agD_tt agD_ff agD_tf agD_ft agD_tup entsOf svref SO.opds SO.writes SO.makes callEnt pureSV pureOf RV.isOwn
attribute [local simp] abin_add abin_sub abin_mul abin_quo abin_rem abin_eql abin_neq abin_lss abin_leq abin_gtr abin_geq
attribute [local simp] uL_snoc uL_set uL_take uL_drop uL_append uL_replicate uL_nil
attribute [local simp] acK_callG acD_callG St.giv gsSV gvSV retEnts ownEnts SO.still
attribute [local simp] S0G argSlotG givSV retQG retPG retAllG retOneG HObj.width V.scalar trimQ V.byte
attribute [local simp] zv V.fits fillOk fillV Z_eq
theorem awake10 : Spec Tryz.prog f_law10_awake [] (· = [.pure (.b true)]) := by
  have n1 : pq [0, 0, 1] [0, 2] = none := rst_place (n := 1) (q := []) (r := [0, 0, 1]) (by decide) (fun i => by rw [mulL, addL]) (fun i hi => cf_ge (by rw [show tr [0, 2] = [0, 2] by decide] at hi; exact hi)) (by decide)
  have s1 : Sml [-1, 0, 1] := by decide
  have s2 : Sml [1, 1] := by decide
  have s3 : Sml [0, 0, 1] := by decide
  have s4 : Sml [0, 2] := by decide
  have s5 : Sml [-1, 1] := by decide
  have s6 : Sml [4, -6] := by decide
  have o1 := ofc s1 (by decide) (by decide)
  have o2 := ofc s2 (by decide) (by decide)
  have o3 := ofc s3 (by decide) (by decide)
  have o4 := ofc s4 (by decide) (by decide)
  have o5 := ofc s5 (by decide) (by decide)
  have o6 := ofc s6 (by decide) (by decide)
  have d1 := pdivq (isP_PZ (pl_small s1)) (isP_PZ (pl_small s2)) (by decide) (by rw [PZ_length]; decide) (by rw [PZ_length]; decide) (by rw [PZ_length]; decide)
  rw [pdivQ_some (q := [-1, 1]) (by decide) (fun i => by rw [show mulL [-1, 1] [1, 1] = [-1, 0, 1] by decide]), show tr [-1, 1] = [-1, 1] by decide] at d1
  have d2 := pdivq (isP_PZ (pl_small s3)) (isP_PZ (pl_small s4)) (by decide) (by rw [PZ_length]; decide) (by rw [PZ_length]; decide) (by rw [PZ_length]; decide)
  rw [pdivQ_none (by decide) n1] at d2
  have sm := same10 [-1, 1] ((pl_small s5).mono (by decide)) (by decide)
  have co := pcontent (isP_PZ (pl_small s6)) (by decide) (by rw [PZ_length]; decide)
  rw [show coL [4, -6] = -2 by decide] at co
  have tt := ztext (k := 1) (isZ_Z (z := -2) (zlen_small (by decide))) (by omega)
  rw [show zT (-2) = [45, 50] by rw [zT, if_pos (by omega)]; decide +kernel] at tt
  have l5 : (PZ [-1, 1]).length = 2 := by rw [PZ_length]; rfl
  obtain ⟨A1, h1⟩ : ∃ A, A = PZ [-1, 0, 1] := ⟨_, rfl⟩
  obtain ⟨A2, h2⟩ : ∃ A, A = PZ [1, 1] := ⟨_, rfl⟩
  obtain ⟨A3, h3⟩ : ∃ A, A = PZ [0, 0, 1] := ⟨_, rfl⟩
  obtain ⟨A4, h4⟩ : ∃ A, A = PZ [0, 2] := ⟨_, rfl⟩
  obtain ⟨A5, h5⟩ : ∃ A, A = PZ [-1, 1] := ⟨_, rfl⟩
  obtain ⟨A6, h6⟩ : ∃ A, A = PZ [4, -6] := ⟨_, rfl⟩
  rw [← h1] at o1 d1
  rw [← h2] at o2 d1
  rw [← h3] at o3 d2
  rw [← h4] at o4 d2
  rw [← h5] at o5 d1 sm l5
  rw [← h6] at o6 co
  refine spec_at Tryz.func7 ok_law10_awake [] rfl (by simp) ?_
  unfold sc_law10_awake
  refine WS_seq (WS_reg [] ?_); simp [tx, abin_seql, l5]
  refine WS_seq (WS_reg [] ?_); simp [tx, abin_seql, l5]
  refine callK o1 ?_; simp [tx, abin_seql, l5]
  refine callK o2 ?_; simp [tx, abin_seql, l5]
  refine callK d1 ?_; simp [tx, abin_seql, l5]
  refine WS_seq (WS_reg [] ?_); simp [tx, abin_seql, l5]
  refine callK o3 ?_; simp [tx, abin_seql, l5]
  refine callK o4 ?_; simp [tx, abin_seql, l5]
  refine callK d2 ?_; simp [tx, abin_seql, l5]
  refine WS_seq (WS_reg [] ?_); simp [tx, abin_seql, l5]
  refine callK o5 ?_; simp [tx, abin_seql, l5]
  refine callK sm ?_; simp [tx, abin_seql, l5]
  refine callK o6 ?_; simp [tx, abin_seql, l5]
  refine callK co ?_; simp [tx, abin_seql, l5]
  refine callK tt ?_; simp [tx, abin_seql, l5]
  refine WS_ret ?_; simp [tx, abin_seql, l5]
end Go.Vw
namespace Go.Vw
open Go.Proofs Go.Py

theorem ysame {i : Nat} {l : List Int} (h : Ld i l) (hi : i ≤ 40) : Spec Tryz.prog f_law10_same [.sl (some 2) (PZ l), .sl (some 2) (PZ l)] (· = [.pure (.b true)]) := same10 l (h.pl40 hi) (h.len40 hi)
end Go.Vw
namespace Go.Vw
open Go.Proofs Go.Py

attribute [local simp] RunL_cons RunL_nil AOp_none AOp_some acK_v acK_call agK_tt agK_ff agK_tf agK_ft agK_tup agK_i aop aun St.ev St.heap St.put thenQ blockQ scopeQ upd_apply S0 argSlot lowV V.cells V.isAgg V.fits V.part partOk plains St.ret retSV svOf svsOf retQ retP retAll retOne uL_length uL_get? uL_get St.elems retH ownIdx ownAt
attribute [local simp] RunD_none RunD_some RunD_nil RunE_any acD_v acD_call agD_tt agD_ff agD_tf agD_ft agD_tup entsOf svref SO.opds SO.writes SO.makes callEnt pureSV pureOf RV.isOwn
attribute [local simp] abin_add abin_sub abin_mul abin_quo abin_rem abin_eql abin_neq abin_lss abin_leq abin_gtr abin_geq
attribute [local simp] uL_snoc uL_set uL_take uL_drop uL_append uL_replicate uL_nil
attribute [local simp] acK_callG acD_callG St.giv gsSV gvSV retEnts ownEnts SO.still
attribute [local simp] S0G argSlotG givSV retQG retPG retAllG retOneG HObj.width V.scalar trimQ V.byte
attribute [local simp] zv V.fits fillOk fillV Z_eq
end Go.Vw
namespace Go.Vw
open Go.Proofs Go.Py

attribute [local simp] RunL_cons RunL_nil AOp_none AOp_some acK_v acK_call agK_tt agK_ff agK_tf agK_ft agK_tup agK_i aop aun St.ev St.heap St.put thenQ blockQ scopeQ upd_apply S0 argSlot lowV V.cells V.isAgg V.fits V.part partOk plains St.ret retSV svOf svsOf retQ retP retAll retOne uL_length uL_get? uL_get St.elems retH ownIdx ownAt
attribute [local simp] RunD_none RunD_some RunD_nil RunE_any acD_v acD_call agD_tt agD_ff agD_tf agD_ft agD_tup entsOf svref SO.opds SO.writes SO.makes callEnt pureSV pureOf RV.isOwn
attribute [local simp] abin_add abin_sub abin_mul abin_quo abin_rem abin_eql abin_neq abin_lss abin_leq abin_gtr abin_geq
attribute [local simp] uL_snoc uL_set uL_take uL_drop uL_append uL_replicate uL_nil
attribute [local simp] acK_callG acD_callG St.giv gsSV gvSV retEnts ownEnts SO.still
attribute [local simp] S0G argSlotG givSV retQG retPG retAllG retOneG HObj.width V.scalar trimQ V.byte
attribute [local simp] zv V.fits fillOk fillV Z_eq
end Go.Vw
namespace Go.Vw
open Go.Proofs Go.Py

attribute [local simp] RunL_cons RunL_nil AOp_none AOp_some acK_v acK_call agK_tt agK_ff agK_tf agK_ft agK_tup agK_i aop aun St.ev St.heap St.put thenQ blockQ scopeQ upd_apply S0 argSlot lowV V.cells V.isAgg V.fits V.part partOk plains St.ret retSV svOf svsOf retQ retP retAll retOne uL_length uL_get? uL_get St.elems retH ownIdx ownAt
attribute [local simp] RunD_none RunD_some RunD_nil RunE_any acD_v acD_call agD_tt agD_ff agD_tf agD_ft agD_tup entsOf svref SO.opds SO.writes SO.makes callEnt pureSV pureOf RV.isOwn
attribute [local simp] abin_add abin_sub abin_mul abin_quo abin_rem abin_eql abin_neq abin_lss abin_leq abin_gtr abin_geq
attribute [local simp] uL_snoc uL_set uL_take uL_drop uL_append uL_replicate uL_nil
attribute [local simp] acK_callG acD_callG St.giv gsSV gvSV retEnts ownEnts SO.still
attribute [local simp] S0G argSlotG givSV retQG retPG retAllG retOneG HObj.width V.scalar trimQ V.byte
attribute [local simp] zv V.fits fillOk fillV Z_eq
end Go.Vw
namespace Go.Vw
open Go.Proofs Go.Py

attribute [local simp] RunL_cons RunL_nil AOp_none AOp_some acK_v acK_call agK_tt agK_ff agK_tf agK_ft agK_tup agK_i aop aun St.ev St.heap St.put thenQ blockQ scopeQ upd_apply S0 argSlot lowV V.cells V.isAgg V.fits V.part partOk plains St.ret retSV svOf svsOf retQ retP retAll retOne uL_length uL_get? uL_get St.elems retH ownIdx ownAt
attribute [local simp] RunD_none RunD_some RunD_nil RunE_any acD_v acD_call agD_tt agD_ff agD_tf agD_ft agD_tup entsOf svref SO.opds SO.writes SO.makes callEnt pureSV pureOf RV.isOwn
attribute [local simp] abin_add abin_sub abin_mul abin_quo abin_rem abin_eql abin_neq abin_lss abin_leq abin_gtr abin_geq
attribute [local simp] uL_snoc uL_set uL_take uL_drop uL_append uL_replicate uL_nil
attribute [local simp] acK_callG acD_callG St.giv gsSV gvSV retEnts ownEnts SO.still
attribute [local simp] S0G argSlotG givSV retQG retPG retAllG retOneG HObj.width V.scalar trimQ V.byte
attribute [local simp] zv V.fits fillOk fillV Z_eq
end Go.Vw
namespace Go.Vw
open Go.Proofs Go.Py

attribute [local simp] RunL_cons RunL_nil AOp_none AOp_some acK_v acK_call agK_tt agK_ff agK_tf agK_ft agK_tup agK_i aop aun St.ev St.heap St.put thenQ blockQ scopeQ upd_apply S0 argSlot lowV V.cells V.isAgg V.fits V.part partOk plains St.ret retSV svOf svsOf retQ retP retAll retOne uL_length uL_get? uL_get St.elems retH ownIdx ownAt
attribute [local simp] RunD_none RunD_some RunD_nil RunE_any acD_v acD_call agD_tt agD_ff agD_tf agD_ft agD_tup entsOf svref SO.opds SO.writes SO.makes callEnt pureSV pureOf RV.isOwn
attribute [local simp] abin_add abin_sub abin_mul abin_quo abin_rem abin_eql abin_neq abin_lss abin_leq abin_gtr abin_geq
attribute [local simp] uL_snoc uL_set uL_take uL_drop uL_append uL_replicate uL_nil
attribute [local simp] acK_callG acD_callG St.giv gsSV gvSV retEnts ownEnts SO.still
attribute [local simp] S0G argSlotG givSV retQG retPG retAllG retOneG HObj.width V.scalar trimQ V.byte
attribute [local simp] zv V.fits fillOk fillV Z_eq
end Go.Vw
namespace Go.Vw
open Go.Proofs Go.Py

attribute [local simp] RunL_cons RunL_nil AOp_none AOp_some acK_v acK_call agK_tt agK_ff agK_tf agK_ft agK_tup agK_i aop aun St.ev St.heap St.put thenQ blockQ scopeQ upd_apply S0 argSlot lowV V.cells V.isAgg V.fits V.part partOk plains St.ret retSV svOf svsOf retQ retP retAll retOne uL_length uL_get? uL_get St.elems retH ownIdx ownAt
attribute [local simp] RunD_none RunD_some RunD_nil RunE_any acD_v acD_call agD_tt agD_ff agD_tf agD_ft agD_tup entsOf svref SO.opds SO.writes SO.makes callEnt pureSV pureOf RV.isOwn
attribute [local simp] abin_add abin_sub abin_mul abin_quo abin_rem abin_eql abin_neq abin_lss abin_leq abin_gtr abin_geq
attribute [local simp] uL_snoc uL_set uL_take uL_drop uL_append uL_replicate uL_nil
attribute [local simp] acK_callG acD_callG St.giv gsSV gvSV retEnts ownEnts SO.still
attribute [local simp] S0G argSlotG givSV retQG retPG retAllG retOneG HObj.width V.scalar trimQ V.byte
attribute [local simp] zv V.fits fillOk fillV Z_eq
end Go.Vw
namespace Go.Vw
open Go.Proofs Go.Py

attribute [local simp] RunL_cons RunL_nil AOp_none AOp_some acK_v acK_call agK_tt agK_ff agK_tf agK_ft agK_tup agK_i aop aun St.ev St.heap St.put thenQ blockQ scopeQ upd_apply S0 argSlot lowV V.cells V.isAgg V.fits V.part partOk plains St.ret retSV svOf svsOf retQ retP retAll retOne uL_length uL_get? uL_get St.elems retH ownIdx ownAt
attribute [local simp] RunD_none RunD_some RunD_nil RunE_any acD_v acD_call agD_tt agD_ff agD_tf agD_ft agD_tup entsOf svref SO.opds SO.writes SO.makes callEnt pureSV pureOf RV.isOwn
attribute [local simp] abin_add abin_sub abin_mul abin_quo abin_rem abin_eql abin_neq abin_lss abin_leq abin_gtr abin_geq
attribute [local simp] uL_snoc uL_set uL_take uL_drop uL_append uL_replicate uL_nil
attribute [local simp] acK_callG acD_callG St.giv gsSV gvSV retEnts ownEnts SO.still
attribute [local simp] S0G argSlotG givSV retQG retPG retAllG retOneG HObj.width V.scalar trimQ V.byte
attribute [local simp] zv V.fits fillOk fillV Z_eq
end Go.Vw
namespace Go.Vw
open Go.Proofs Go.Py

attribute [local simp] RunL_cons RunL_nil AOp_none AOp_some acK_v acK_call agK_tt agK_ff agK_tf agK_ft agK_tup agK_i aop aun St.ev St.heap St.put thenQ blockQ scopeQ upd_apply S0 argSlot lowV V.cells V.isAgg V.fits V.part partOk plains St.ret retSV svOf svsOf retQ retP retAll retOne uL_length uL_get? uL_get St.elems retH ownIdx ownAt
attribute [local simp] RunD_none RunD_some RunD_nil RunE_any acD_v acD_call agD_tt agD_ff agD_tf agD_ft agD_tup entsOf svref SO.opds SO.writes SO.makes callEnt pureSV pureOf RV.isOwn
attribute [local simp] abin_add abin_sub abin_mul abin_quo abin_rem abin_eql abin_neq abin_lss abin_leq abin_gtr abin_geq
attribute [local simp] uL_snoc uL_set uL_take uL_drop uL_append uL_replicate uL_nil
attribute [local simp] acK_callG acD_callG St.giv gsSV gvSV retEnts ownEnts SO.still
attribute [local simp] S0G argSlotG givSV retQG retPG retAllG retOneG HObj.width V.scalar trimQ V.byte
attribute [local simp] zv V.fits fillOk fillV Z_eq
end Go.Vw
namespace Go.Vw
open Go.Proofs Go.Py

attribute [local simp] RunL_cons RunL_nil AOp_none AOp_some acK_v acK_call agK_tt agK_ff agK_tf agK_ft agK_tup agK_i aop aun St.ev St.heap St.put thenQ blockQ scopeQ upd_apply S0 argSlot lowV V.cells V.isAgg V.fits V.part partOk plains St.ret retSV svOf svsOf retQ retP retAll retOne uL_length uL_get? uL_get St.elems retH ownIdx ownAt
attribute [local simp] RunD_none RunD_some RunD_nil RunE_any acD_v acD_call agD_tt agD_ff agD_tf agD_ft agD_tup entsOf svref SO.opds SO.writes SO.makes callEnt pureSV pureOf RV.isOwn
attribute [local simp] abin_add abin_sub abin_mul abin_quo abin_rem abin_eql abin_neq abin_lss abin_leq abin_gtr abin_geq
attribute [local simp] uL_snoc uL_set uL_take uL_drop uL_append uL_replicate uL_nil
attribute [local simp] acK_callG acD_callG St.giv gsSV gvSV retEnts ownEnts SO.still
attribute [local simp] S0G argSlotG givSV retQG retPG retAllG retOneG HObj.width V.scalar trimQ V.byte
attribute [local simp] zv V.fits fillOk fillV Z_eq
end Go.Vw
namespace Go.Vw
open Go.Proofs Go.Py

attribute [local simp] RunL_cons RunL_nil AOp_none AOp_some acK_v acK_call agK_tt agK_ff agK_tf agK_ft agK_tup agK_i aop aun St.ev St.heap St.put thenQ blockQ scopeQ upd_apply S0 argSlot lowV V.cells V.isAgg V.fits V.part partOk plains St.ret retSV svOf svsOf retQ retP retAll retOne uL_length uL_get? uL_get St.elems retH ownIdx ownAt
attribute [local simp] RunD_none RunD_some RunD_nil RunE_any acD_v acD_call agD_tt agD_ff agD_tf agD_ft agD_tup entsOf svref SO.opds SO.writes SO.makes callEnt pureSV pureOf RV.isOwn
attribute [local simp] abin_add abin_sub abin_mul abin_quo abin_rem abin_eql abin_neq abin_lss abin_leq abin_gtr abin_geq
attribute [local simp] uL_snoc uL_set uL_take uL_drop uL_append uL_replicate uL_nil
attribute [local simp] acK_callG acD_callG St.giv gsSV gvSV retEnts ownEnts SO.still
attribute [local simp] S0G argSlotG givSV retQG retPG retAllG retOneG HObj.width V.scalar trimQ V.byte
attribute [local simp] zv V.fits fillOk fillV Z_eq
end Go.Vw
namespace Go.Vw
open Go.Proofs Go.Py

attribute [local simp] RunL_cons RunL_nil AOp_none AOp_some acK_v acK_call agK_tt agK_ff agK_tf agK_ft agK_tup agK_i aop aun St.ev St.heap St.put thenQ blockQ scopeQ upd_apply S0 argSlot lowV V.cells V.isAgg V.fits V.part partOk plains St.ret retSV svOf svsOf retQ retP retAll retOne uL_length uL_get? uL_get St.elems retH ownIdx ownAt
attribute [local simp] RunD_none RunD_some RunD_nil RunE_any acD_v acD_call agD_tt agD_ff agD_tf agD_ft agD_tup entsOf svref SO.opds SO.writes SO.makes callEnt pureSV pureOf RV.isOwn
attribute [local simp] abin_add abin_sub abin_mul abin_quo abin_rem abin_eql abin_neq abin_lss abin_leq abin_gtr abin_geq
attribute [local simp] uL_snoc uL_set uL_take uL_drop uL_append uL_replicate uL_nil
attribute [local simp] acK_callG acD_callG St.giv gsSV gvSV retEnts ownEnts SO.still
attribute [local simp] S0G argSlotG givSV retQG retPG retAllG retOneG HObj.width V.scalar trimQ V.byte
attribute [local simp] zv V.fits fillOk fillV Z_eq
set_option maxHeartbeats 4000000 in
theorem law_ZpolyAdds (M1 M2 : List (Bool × List Nat)) (n3 : Bool) (l3 : List Nat) (l : List Int) (h1 : PW (2 ^ 24) M1) (h2 : PW (2 ^ 24) M2) (h3 : ZW (2 ^ 24) l3) (hl : ∀ x ∈ l, -9223372036854775808 ≤ x ∧ x ≤ 9223372036854775807) (hn : l.length ≤ 1048576) :
    Spec Tryz.prog f_law10_ZpolyAdds [.sl (some 2) (zL M1), .sl (some 2) (zL M2), zv n3 l3, .sl none (IL l)] (· = [.pure (.b true)]) := by
  have aw := awake10
  have sm := small10 30 8 (by omega) (by omega) [M1, M2, [(n3, l3)]] (by simp) (by
    intro M hM
    simp only [List.mem_cons, List.not_mem_nil, or_false] at hM
    rcases hM with rfl | rfl | rfl
    · have := h1.len; omega
    · have := h2.len; omega
    · simp)
  have eL : mL [M1, M2, [(n3, l3)]] = [.sl (some 2) (zL M1), .sl (some 2) (zL M2), .sl (some 2) [zv n3 l3]] := rfl
  rw [eL] at sm
  have zx := isZ_zv (n := n3) h3
  by_cases hs : smB 30 8 [M1, M2, [(n3, l3)]] = true
  · have ra := ld_rd (w := 8) (n := 30) (i := 5) (by omega) (by omega) h1.each (small_of hs (by simp))
    have rb := ld_rd (w := 8) (n := 30) (i := 5) (by omega) (by omega) h2.each (small_of hs (by simp))
    have hl3 := small_of hs (M := [(n3, l3)]) (by simp)
    simp [smR] at hl3
    have zx : IsZ 8 (zv n3 l3) (zi n3 l3) := ⟨n3, l3, rfl, ⟨h3.dl, hl3⟩, rfl⟩
    rw [hs] at sm
    obtain ⟨a, ea⟩ : ∃ a, a = piL M1 := ⟨_, rfl⟩
    obtain ⟨b, eb⟩ : ∃ a, a = piL M2 := ⟨_, rfl⟩
    obtain ⟨x, ex⟩ : ∃ a, a = zi n3 l3 := ⟨_, rfl⟩
    rw [← ea] at ra
    rw [← eb] at rb
    rw [← ex] at zx
    clear ea eb ex hs
    obtain ⟨A, eA⟩ : ∃ A, A = zL M1 := ⟨_, rfl⟩
    obtain ⟨B, eB⟩ : ∃ A, A = zL M2 := ⟨_, rfl⟩
    rw [← eA] at ra sm ⊢
    rw [← eB] at rb sm ⊢
    clear eA eB eL h1 h2 h3 M1 M2 hl3
    have la := ra.ld
    have lb := rb.ld
    have zxl := zx.zlen
    have zx5 : IsZ (2 ^ 5) (zv n3 l3) x := zx.mono (by omega)
    have al := ra.len
    have bl := rb.len
    have n1 := ynorm ra (by omega)
    have n2 := own_plain (rnorm10 ra.isp (by omega) (by omega))
    have s1 := ysame (ld_tr la) (by omega)
    have a1 := yadd ra rb (by omega)
    have a2 := own_plain (radd10 ra.isp rb.isp (by omega) (by omega) (by omega))
    have s2 := ysame (ld_tr (ld_add la lb)) (by omega)
    have b1 := ysub ra rb (by omega)
    have b2 := own_plain (rsub10 ra.isp rb.isp (by omega) (by omega) (by omega))
    have l1 : zlen (-1) ≤ 2 ^ 5 := by have : zlen (-1) ≤ 1 := zlen_small (by decide); omega
    have s3 := ysame (ld_tr (ld_add (la.mono (show 5 ≤ 6 by omega)) (ld_sc lb l1))) (by omega)
    have c1 := ymul ra rb (by omega)
    have c2 := own_plain (rmul10 ra.isp rb.isp (by omega) (by omega) (by omega))
    have s4 := ysame (ld_tr (ld_mul la lb)) (by omega)
    have d1 := yscale ra zx5 (by omega)
    have d2 := own_plain (rscale10 ra.isp zx5 (by omega) (by omega) (by omega))
    have s5 := ysame (ld_tr (ld_sc la zx5.zlen)) (by omega)
    have e1 := pless ra.isp rb.isp (by omega) (by omega) (by omega)
    have e2 := rless ra.isp rb.isp (by omega) (by omega) (by omega)
    have hn40 : l.length ≤ 2 ^ 40 := by omega
    have f1 := own_plain (pof hl hn40)
    have f2 := own_plain (rof10 hl hn40)
    have f3 := own_plain (plift hl hn40)
    have s6 := same10 (tr l) ((pl_tr (pl_small hl)).mono (by omega)) (by have := tr_len l; omega)
    rw [show (l.map fun x => V.i .i64 x) = IL l from rfl] at f1 f3
    obtain ⟨I, hI⟩ : ∃ I, I = IL l := ⟨_, rfl⟩
    rw [← hI] at f1 f2 f3 ⊢
    obtain ⟨t, ht⟩ : ∃ t, t = lessP a b := ⟨_, rfl⟩
    rw [← ht] at e1 e2
    obtain ⟨W1, w1⟩ : ∃ W, W = PZ (tr a) := ⟨_, rfl⟩
    rw [← w1] at n1 n2 s1
    obtain ⟨W2, w2⟩ : ∃ W, W = PZ (tr (addL a b)) := ⟨_, rfl⟩
    rw [← w2] at a1 a2 s2
    obtain ⟨W3, w3⟩ : ∃ W, W = PZ (tr (addL a (scL (-1) b))) := ⟨_, rfl⟩
    rw [← w3] at b1 b2 s3
    obtain ⟨W4, w4⟩ : ∃ W, W = PZ (tr (mulL a b)) := ⟨_, rfl⟩
    rw [← w4] at c1 c2 s4
    obtain ⟨W5, w5⟩ : ∃ W, W = PZ (tr (scL x a)) := ⟨_, rfl⟩
    rw [← w5] at d1 d2 s5
    obtain ⟨W6, w6⟩ : ∃ W, W = PZ (tr l) := ⟨_, rfl⟩
    rw [← w6] at f1 f2 f3 s6
    refine spec_at Tryz.func3 ok_law10_ZpolyAdds [] rfl (by simp) ?_
    unfold sc_law10_ZpolyAdds
    refine WS_seq (WS_reg [] ?_); simp
    refine WS_seq (WS_reg [] ?_); simp
    refine callK aw ?_; simp
    refine WS_seq (WS_seq (WS_reg [] ?_)); simp
    refine callK sm ?_; simp
    refine WS_cond (t := false) (by simp) (fun h => by cases h) (fun _ => ?_)
    refine WS_skip ?_; simp
    refine WS_seq (WS_regD [] ?_); simp
    refine callD n1 rfl ?_; simp
    refine callD n2 rfl ?_; simp
    refine callD s1 rfl ?_; simp
    refine callD a1 rfl ?_; simp
    refine callD a2 rfl ?_; simp
    refine callD s2 rfl ?_; simp
    refine callD b1 rfl ?_; simp
    refine callD b2 rfl ?_; simp
    refine callD s3 rfl ?_; simp
    refine callD c1 rfl ?_; simp
    refine callD c2 rfl ?_; simp
    refine callD s4 rfl ?_; simp
    refine callD d1 rfl ?_; simp
    refine callD d2 rfl ?_; simp
    refine callD s5 rfl ?_; simp
    refine callD e1 rfl ?_; simp
    refine callD e2 rfl ?_; simp
    refine callD f1 rfl ?_; simp
    refine callD f2 rfl ?_; simp
    refine callD s6 rfl ?_; simp
    refine callD f3 rfl ?_; simp
    refine callD f2 rfl ?_; simp
    refine callD s6 rfl ?_; simp
    refine ⟨rfl, ?_⟩
    refine WS_ret ?_; simp
  · have hs' : smB 30 8 [M1, M2, [(n3, l3)]] = false := by simpa using hs
    rw [hs'] at sm
    refine spec_at Tryz.func3 ok_law10_ZpolyAdds [] rfl (by simp) ?_
    unfold sc_law10_ZpolyAdds
    refine WS_seq (WS_reg [] ?_); simp
    refine WS_seq (WS_reg [] ?_); simp
    refine callK aw ?_; simp
    refine WS_seq (WS_seq (WS_reg [] ?_)); simp
    refine callK sm ?_; simp
    refine WS_cond (t := true) (by simp) (fun _ => ?_) (fun h => by cases h)
    refine WS_seq (WS_reg [] ?_); simp
    refine WS_ret ?_; simp
set_option maxHeartbeats 4000000 in
theorem law_ZpolyTurns (M1 : List (Bool × List Nat)) (n2 : Bool) (l2 : List Nat) (p : Int) (h1 : PW (2 ^ 24) M1) (h2 : ZW (2 ^ 24) l2) (p1 : -9223372036854775808 ≤ p) (p2 : p ≤ 9223372036854775807) :
    Spec Tryz.prog f_law10_ZpolyTurns [.sl (some 2) (zL M1), zv n2 l2, .i .i64 p] (· = [.pure (.b true)]) := by
  have aw := awake10
  have sm := small10 16 3 (by omega) (by omega) [M1, [(n2, l2)]] (by simp) (by
    intro M hM
    simp only [List.mem_cons, List.not_mem_nil, or_false] at hM
    rcases hM with rfl | rfl
    · have := h1.len; omega
    · simp)
  have eL : mL [M1, [(n2, l2)]] = [.sl (some 2) (zL M1), .sl (some 2) [zv n2 l2]] := rfl
  rw [eL] at sm
  by_cases hs : smB 16 3 [M1, [(n2, l2)]] = true
  · have ra := ld_rd (w := 3) (n := 16) (i := 4) (by omega) (by omega) h1.each (small_of hs (by simp))
    have hl3 := small_of hs (M := [(n2, l2)]) (by simp)
    simp [smR] at hl3
    have zx : IsZ 3 (zv n2 l2) (zi n2 l2) := ⟨n2, l2, rfl, ⟨h2.dl, hl3⟩, rfl⟩
    rw [hs] at sm
    obtain ⟨a, ea⟩ : ∃ a, a = piL M1 := ⟨_, rfl⟩
    obtain ⟨x, ex⟩ : ∃ a, a = zi n2 l2 := ⟨_, rfl⟩
    rw [← ea] at ra
    rw [← ex] at zx
    clear ea ex hs
    obtain ⟨A, eA⟩ : ∃ A, A = zL M1 := ⟨_, rfl⟩
    rw [← eA] at ra sm ⊢
    clear eA eL h1 h2 M1 hl3
    have la := ra.ld
    have zxl := zx.zlen
    have al := ra.len
    have lla := la.len
    have m1 := pmodq ra.isp (by omega) (by omega) p p1 p2
    have m2 := rmod10 ra.isp (by omega) (by omega) p p1 p2
    have hm : ∃ (R : List Int) (e : Int), modQ p a = [.pure (.sl none (IL R)), .pure (.i .i64 e)] ∧ R.length ≤ 2 ^ 40 := by
      rw [modQ]
      split
      · exact ⟨[], 1, rfl, by simp⟩
      · exact ⟨_, 0, rfl, by have := rsL_len p a; omega⟩
    obtain ⟨R, e, he, hR⟩ := hm
    rw [he] at m1 m2
    have s1 := same6 R hR
    have d1 := yderiv ra (by omega)
    have d2 := own_plain (rderiv10 ra.isp (by omega) (by omega))
    have s2 := ysame (ld_tr (ld_de la (by omega))) (by omega)
    have hm : A.length * (3 + 1) ≤ 2 ^ 24 := by omega
    have v1 := peval ra.isp zx (by omega) (by omega) (by omega) (by omega)
    have v2 := reval10 ra.isp zx (by omega) (by omega) (by omega) (by omega)
    have za := evl_len zxl la.pl
    have zal : zlen (evL x a) ≤ 2 ^ 7 := by omega
    have s3 := rsame2 zal (by omega)
    have f1 := own_plain (pshift ra.isp zx (by omega) (by omega) (by omega) (by
      have h1 : A.length * (3 + 1) ≤ 2 ^ 4 * (3 + 1) := Nat.mul_le_mul_right _ al
      have h2 : A.length * (A.length * (3 + 1)) ≤ 2 ^ 4 * (2 ^ 4 * (3 + 1)) := Nat.mul_le_mul al h1
      omega))
    have f2 := rshift10 ra.isp zx (by omega) (by omega) (by omega) (by omega)
    have ls : Ld 8 (tr (shL x a)) := by
      refine ⟨pl_tr ((pl_sh zxl la.pl).mono ?_), ?_⟩
      · have := Nat.mul_le_mul_right (3 + 4) lla
        omega
      · rw [sh_len]; have := tr_len a; omega
    have s4 := ysame ls (by omega)
    have g1 := ycontent ra (by omega)
    have g2 := rcontent10 ra.isp (by omega) (by omega)
    have s5 := rsame2 (coL_len la.pl) (by omega)
    have k1 := yprim ra (by omega)
    have k2 := rprim10 ra.isp (by omega) (by omega) (by
      have : A.length * (2 ^ 4 + 1) ≤ 2 ^ 4 * (2 ^ 4 + 1) := Nat.mul_le_mul_right _ al
      omega)
    have s6 := ysame (ld_pp la) (by omega)
    obtain ⟨ev, hev⟩ : ∃ e, e = evL x a := ⟨_, rfl⟩
    rw [← hev] at v1 v2 s3
    obtain ⟨co, hco⟩ : ∃ e, e = coL a := ⟨_, rfl⟩
    rw [← hco] at g1 g2 s5
    obtain ⟨I, hI⟩ : ∃ I, I = IL R := ⟨_, rfl⟩
    rw [← hI] at m1 m2 s1
    obtain ⟨W1, w1⟩ : ∃ W, W = PZ (tr (deL a)) := ⟨_, rfl⟩
    rw [← w1] at d1 d2 s2
    obtain ⟨W2, w2⟩ : ∃ W, W = PZ (tr (shL x a)) := ⟨_, rfl⟩
    rw [← w2] at f1 f2 s4
    obtain ⟨W3, w3⟩ : ∃ W, W = PZ (ppL a) := ⟨_, rfl⟩
    rw [← w3] at k1 k2 s6
    refine spec_at Tryz.func4 ok_law10_ZpolyTurns [] rfl (by simp) ?_
    unfold sc_law10_ZpolyTurns
    refine WS_seq (WS_reg [] ?_); simp
    refine WS_seq (WS_reg [] ?_); simp
    refine callK aw ?_; simp
    refine WS_seq (WS_seq (WS_reg [] ?_)); simp
    refine callK sm ?_; simp
    refine WS_cond (t := false) (by simp) (fun h => by cases h) (fun _ => ?_)
    refine WS_skip ?_; simp
    refine WS_seq (WS_reg [] ?_); simp
    refine callK m1 ?_; simp
    refine WS_seq (WS_reg [] ?_); simp
    refine callK m2 ?_; simp
    refine WS_seq (WS_regD [] ?_); simp
    refine callD s1 rfl ?_; simp
    refine callD d1 rfl ?_; simp
    refine callD d2 rfl ?_; simp
    refine callD s2 rfl ?_; simp
    refine callD v1 rfl ?_; simp
    refine callD v2 rfl ?_; simp
    refine callD s3 rfl ?_; simp
    refine callD f1 rfl ?_; simp
    refine callD f2 rfl ?_; simp
    refine callD s4 rfl ?_; simp
    refine callD g1 rfl ?_; simp
    refine callD g2 rfl ?_; simp
    refine callD s5 rfl ?_; simp
    refine callD k1 rfl ?_; simp
    refine callD k2 rfl ?_; simp
    refine callD s6 rfl ?_; simp
    refine ⟨rfl, ?_⟩
    refine WS_ret ?_; simp
  · have hs' : smB 16 3 [M1, [(n2, l2)]] = false := by simpa using hs
    rw [hs'] at sm
    refine spec_at Tryz.func4 ok_law10_ZpolyTurns [] rfl (by simp) ?_
    unfold sc_law10_ZpolyTurns
    refine WS_seq (WS_reg [] ?_); simp
    refine WS_seq (WS_reg [] ?_); simp
    refine callK aw ?_; simp
    refine WS_seq (WS_seq (WS_reg [] ?_)); simp
    refine callK sm ?_; simp
    refine WS_cond (t := true) (by simp) (fun _ => ?_) (fun h => by cases h)
    refine WS_seq (WS_reg [] ?_); simp
    refine WS_ret ?_; simp
end Go.Vw
namespace Go.Vw
open Go.Proofs Go.Py

attribute [local simp] RunL_cons RunL_nil AOp_none AOp_some acK_v acK_call agK_tt agK_ff agK_tf agK_ft agK_tup agK_i aop aun St.ev St.heap St.put thenQ blockQ scopeQ upd_apply S0 argSlot lowV V.cells V.isAgg V.fits V.part partOk plains St.ret retSV svOf svsOf retQ retP retAll retOne uL_length uL_get? uL_get St.elems retH ownIdx ownAt
attribute [local simp] RunD_none RunD_some RunD_nil RunE_any acD_v acD_call agD_tt agD_ff agD_tf agD_ft agD_tup entsOf svref SO.opds SO.writes SO.makes callEnt pureSV pureOf RV.isOwn
attribute [local simp] abin_add abin_sub abin_mul abin_quo abin_rem abin_eql abin_neq abin_lss abin_leq abin_gtr abin_geq
attribute [local simp] uL_snoc uL_set uL_take uL_drop uL_append uL_replicate uL_nil
attribute [local simp] acK_callG acD_callG St.giv gsSV gvSV retEnts ownEnts SO.still
attribute [local simp] S0G argSlotG givSV retQG retPG retAllG retOneG HObj.width V.scalar trimQ V.byte
attribute [local simp] zv V.fits fillOk fillV Z_eq
end Go.Vw

