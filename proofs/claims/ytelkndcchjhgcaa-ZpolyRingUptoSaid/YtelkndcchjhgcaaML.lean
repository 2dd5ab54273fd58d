/- The contracts of the laws of layer 10 and 11. -/
import Derived.Test.YtelkndcchjhgcaaMA
import Derived.Test.YtelkndcchjhgcaaMB
import Derived.Test.YtelkndcchjhgcaaMC
import Derived.Test.YtelkndcchjhgcaaMD
import Derived.Test.YtelkndcchjhgcaaME
import Derived.Test.YtelkndcchjhgcaaMF
import Derived.Test.YtelkndcchjhgcaaMG
import Derived.Test.YtelkndcchjhgcaaMP
set_option linter.unusedVariables false
set_option linter.unusedSimpArgs false
namespace Go.Vw
open Go.Proofs Go.Py

attribute [local simp] RunL_cons RunL_nil AOp_none AOp_some acK_v acK_call agK_tt agK_ff agK_tf agK_ft agK_tup agK_i aop aun St.ev St.heap St.put thenQ blockQ scopeQ upd_apply S0 argSlot lowV V.cells V.isAgg V.fits V.part partOk plains St.ret retSV svOf svsOf retQ retP retAll retOne uL_length uL_get? uL_get St.elems retH ownIdx ownAt
attribute [local simp] RunD_none RunD_some RunD_nil RunE_any acD_v acD_call agD_tt agD_ff agD_tf agD_ft agD_tup entsOf svref SO.opds SO.writes SO.makes callEnt pureSV pureOf RV.isOwn
attribute [local simp] abin_add abin_sub abin_mul abin_quo abin_rem abin_eql abin_neq abin_lss abin_leq abin_gtr abin_geq
attribute [local simp] uL_snoc uL_set uL_take uL_drop uL_append uL_replicate uL_nil
attribute [local simp] acK_callG acD_callG St.giv gsSV gvSV retEnts ownEnts SO.still
attribute [local simp] S0G argSlotG givSV retQG retPG retAllG retOneG HObj.width V.scalar trimQ V.byte
attribute [local simp] zv V.fits fillOk fillV Z_eq
theorem same10 (l : List Int) (hp : PL (2 ^ 40) l) (hn : l.length ≤ 2 ^ 40) : Spec Try.prog f_law10_same [.sl (some 2) (PZ l), .sl (some 2) (PZ l)] (· = [.pure (.b true)]) := by
  have sm := psame l hp hn
  obtain ⟨O, hO⟩ : ∃ O, O = PZ l := ⟨_, rfl⟩
  rw [← hO] at sm ⊢
  refine spec_at Try.func15 ok_law10_same [] rfl (by simp) ?_
  unfold sc_law10_same
  refine WS_seq (WS_reg [] ?_); simp
  refine WS_seq (WS_reg [] ?_); simp
  refine callK sm ?_; simp
  refine WS_ret ?_; simp

end Go.Vw
namespace Go.Vw
open Go.Proofs Go.Py

attribute [local simp] RunL_cons RunL_nil AOp_none AOp_some acK_v acK_call agK_tt agK_ff agK_tf agK_ft agK_tup agK_i aop aun St.ev St.heap St.put thenQ blockQ scopeQ upd_apply S0 argSlot lowV V.cells V.isAgg V.fits V.part partOk plains St.ret retSV svOf svsOf retQ retP retAll retOne uL_length uL_get? uL_get St.elems retH ownIdx ownAt
attribute [local simp] RunD_none RunD_some RunD_nil RunE_any acD_v acD_call agD_tt agD_ff agD_tf agD_ft agD_tup entsOf svref SO.opds SO.writes SO.makes callEnt pureSV pureOf RV.isOwn
attribute [local simp] abin_add abin_sub abin_mul abin_quo abin_rem abin_eql abin_neq abin_lss abin_leq abin_gtr abin_geq
attribute [local simp] uL_snoc uL_set uL_take uL_drop uL_append uL_replicate uL_nil
attribute [local simp] acK_callG acD_callG St.giv gsSV gvSV retEnts ownEnts SO.still
attribute [local simp] S0G argSlotG givSV retQG retPG retAllG retOneG HObj.width V.scalar trimQ V.byte
attribute [local simp] zv V.fits fillOk fillV Z_eq
set_option maxHeartbeats 1000000 in
theorem small10 (n w : Nat) (hn : n ≤ 2 ^ 40) (hw : w ≤ 2 ^ 40) (Ms : List (List (Bool × List Nat))) (hM : Ms.length ≤ 2 ^ 40) (hMs : ∀ M ∈ Ms, M.length ≤ 2 ^ 40) : Spec Try.prog f_law10_small [.i .i64 (n : Int), .i .i64 (w : Int), .sl none (mL Ms)] (· = [.pure (.b (smB n w Ms))]) := by
  have hml : (mL Ms).length = Ms.length := by simp [mL]
  refine spec_at Try.func12 ok_law10_small [] rfl (by simp) ?_
  unfold sc_law10_small
  refine WS_seq (WS_reg [] ?_); simp
  refine WS_seq (WS_seq (WS_reg [] ?_)); simp
  refine WS_block ?_
  refine WS_loop (SmS n w Ms) (fun S => Ms.length - nM 7 S) ⟨0, by omega, rfl, rfl, rfl, rfl, rfl⟩ ?_
  rintro S ⟨i, hi, s0, s1, s2, s7, hall⟩
  have d7 := nM_eq s7
  by_cases hlt : i < Ms.length
  · have hltI : (i : Int) < (Ms.length : Int) := by omega
    have hml2 : i < (mL Ms).length := by omega
    have hget : (mL Ms)[i] = .sl (some 2) (zL Ms[i]) := by simp [mL]
    have hmem := List.getElem_mem hlt
    have htk := List.take_succ_eq_append_getElem hlt
    obtain ⟨M, hMe⟩ : ∃ M, M = Ms[i] := ⟨_, rfl⟩
    rw [← hMe] at hget hmem htk
    have hMl := hMs M hmem
    have hzl : (zL M).length = M.length := by simp [zL]
    have wi := i64_succ i (by omega)
    obtain ⟨O, hO⟩ : ∃ O, O = mL Ms := ⟨_, rfl⟩
    have hOl : i < O.length := by rw [hO]; omega
    have hg2 : O[i] = .sl (some 2) (zL M) := by simp only [hO]; exact hget
    rw [← hO] at hml s2
    by_cases hb : M.length ≤ n
    · have hbI : ¬ (n : Int) < (M.length : Int) := by omega
      refine WS_seq (WS_seq (WS_reg [] ?_)); simp [s0, s1, s2, s7, hlt, hltI, hml, hg2, hzl, hbI]
      refine WS_cond (t := true) (by simp [s0, s1, s2, s7, hlt, hltI, hml, hg2, hzl, hbI]) (fun _ => ?_) (fun h => by cases h)
      refine WS_skip ?_; simp [s0, s1, s2, s7, hlt, hltI, hml, hg2, hzl, hbI]
      refine WS_seq (WS_block (WS_seq (WS_seq (WS_reg [] ?_)))); simp [s0, s1, s2, s7, hlt, hltI, hml, hg2, hzl, hbI]
      refine WS_cond (t := false) (by simp [s0, s1, s2, s7, hlt, hltI, hml, hg2, hzl, hbI]) (fun h => by cases h) (fun _ => ?_)
      refine WS_skip ?_; simp [s0, s1, s2, s7, hlt, hltI, hml, hg2, hzl, hbI]
      refine WS_seq (WS_reg [] ?_); simp [s0, s1, s2, s7, hlt, hltI, hml, hg2, hzl, hbI]
      refine WS_block ?_
      refine WS_loop (SmJ n w Ms i M) (fun S => M.length - nM 8 S) ⟨0, by omega, by simp, rfl, by simp [s0], by simp [s1], by simp [s2, hO], by simp [s7], hall⟩ ?_
      clear s0 s1 s2 s7
      rintro S' ⟨k, hk, s8, hr, s0, s1, s2, s7, -⟩
      have d8 := nM_eq s8
      rw [← hO] at s2
      by_cases hlt2 : k < M.length
      · have hltI2 : (k : Int) < (M.length : Int) := by omega
        have hzk : k < (zL M).length := by omega
        have hgk : (zL M)[k] = .agg [.b M[k].1, .sl none (uL M[k].2)] := by simp [zL]
        have htk2 := List.take_succ_eq_append_getElem hlt2
        have hmem2 := List.getElem_mem hlt2
        obtain ⟨p, hp⟩ : ∃ p, p = M[k] := ⟨_, rfl⟩
        rw [← hp] at hgk htk2 hmem2
        have wk := i64_succ k (by omega)
        obtain ⟨Z1, hZ1⟩ : ∃ O, O = zL M := ⟨_, rfl⟩
        have hZl : k < Z1.length := by rw [hZ1]; omega
        have hg3 : Z1[k] = .agg [.b p.1, .sl none (uL p.2)] := by simp only [hZ1]; exact hgk
        rw [← hZ1] at hzl hg2
        by_cases hq : p.2.length ≤ w
        · have hqI : ¬ (w : Int) < (p.2.length : Int) := by omega
          refine WS_seq (WS_seq (WS_reg [] ?_)); simp [s0, s1, s2, s7, s8, hlt, hltI, hlt2, hltI2, hml, hg2, hzl, hg3, hqI, wk]
          refine WS_cond (t := true) (by simp [s0, s1, s2, s7, s8, hlt, hltI, hlt2, hltI2, hml, hg2, hzl, hg3, hqI, wk]) (fun _ => ?_) (fun h => by cases h)
          refine WS_skip ?_; simp [s0, s1, s2, s7, s8, hlt, hltI, hlt2, hltI2, hml, hg2, hzl, hg3, hqI, wk]
          refine WS_seq (WS_block (WS_seq (WS_reg [] ?_))); simp [s0, s1, s2, s7, s8, hlt, hltI, hlt2, hltI2, hml, hg2, hzl, hg3, hqI, wk]
          refine WS_cond (t := false) (by simp [s0, s1, s2, s7, s8, hlt, hltI, hlt2, hltI2, hml, hg2, hzl, hg3, hqI, wk]) (fun h => by cases h) (fun _ => ?_)
          refine WS_skip ?_; simp [s0, s1, s2, s7, s8, hlt, hltI, hlt2, hltI2, hml, hg2, hzl, hg3, hqI, wk]
          refine WS_reg [] ?_; simp [s0, s1, s2, s7, s8, hlt, hltI, hlt2, hltI2, hml, hg2, hzl, hg3, hqI, wk]
          refine ⟨⟨k + 1, by omega, by simp, by rw [htk2]; exact smR_snoc hr hq, by simp [s0], by simp [s1], by simp [s2, hO], by simp [s7], hall⟩, ?_⟩
          show M.length - nM 8 _ < M.length - nM 8 S'
          rw [d8, nM_eq (i := 8) (n := k + 1) (by simp)]
          omega
        · have hqI : (w : Int) < (p.2.length : Int) := by omega
          have hno : smR w M = false := by
            rw [smR, List.all_eq_false]
            exact ⟨p, hmem2, by simp; omega⟩
          rw [smB_false hmem (by rw [hno, Bool.and_false])]
          refine WS_seq (WS_seq (WS_reg [] ?_)); simp [s0, s1, s2, s7, s8, hlt, hltI, hlt2, hltI2, hml, hg2, hzl, hg3, hqI, wk]
          refine WS_cond (t := true) (by simp [s0, s1, s2, s7, s8, hlt, hltI, hlt2, hltI2, hml, hg2, hzl, hg3, hqI, wk]) (fun _ => ?_) (fun h => by cases h)
          refine WS_skip ?_; simp [s0, s1, s2, s7, s8, hlt, hltI, hlt2, hltI2, hml, hg2, hzl, hg3, hqI, wk]
          refine WS_seq (WS_block (WS_seq (WS_reg [] ?_))); simp [s0, s1, s2, s7, s8, hlt, hltI, hlt2, hltI2, hml, hg2, hzl, hg3, hqI, wk]
          refine WS_cond (t := true) (by simp [s0, s1, s2, s7, s8, hlt, hltI, hlt2, hltI2, hml, hg2, hzl, hg3, hqI, wk]) (fun _ => ?_) (fun h => by cases h)
          refine WS_seq (WS_reg [] ?_); simp [s0, s1, s2, s7, s8, hlt, hltI, hlt2, hltI2, hml, hg2, hzl, hg3, hqI, wk]
          refine WS_ret ?_; simp [s0, s1, s2, s7, s8, hlt, hltI, hlt2, hltI2, hml, hg2, hzl, hg3, hqI, wk]
      · obtain rfl : k = M.length := by omega
        have hltI2 : ¬ (M.length : Int) < (M.length : Int) := by omega
        rw [List.take_length] at hr
        refine WS_seq (WS_seq (WS_reg [] ?_)); simp [s0, s1, s2, s7, s8, hlt, hltI, hltI2, hml, hg2, hzl, wi]
        refine WS_cond (t := false) (by simp [s0, s1, s2, s7, s8, hlt, hltI, hltI2, hml, hg2, hzl, wi]) (fun h => by cases h) (fun _ => ?_)
        refine WS_exit ?_; simp [s0, s1, s2, s7, s8, hlt, hltI, hltI2, hml, hg2, hzl, wi]
        refine WS_reg [] ?_; simp [s0, s1, s2, s7, s8, hlt, hltI, hltI2, hml, hg2, hzl, wi]
        refine ⟨⟨i + 1, by omega, by simp [s0], by simp [s1], by simp [s2, hO], by simp, by rw [htk]; exact smB_snoc hall hb hr⟩, ?_⟩
        show Ms.length - nM 7 _ < Ms.length - nM 7 S
        rw [d7, nM_eq (i := 7) (n := i + 1) (by simp)]
        omega
    · have hbI : (n : Int) < (M.length : Int) := by omega
      rw [smB_false hmem (by simp; omega)]
      refine WS_seq (WS_seq (WS_reg [] ?_)); simp [s0, s1, s2, s7, hlt, hltI, hml, hg2, hzl, hbI]
      refine WS_cond (t := true) (by simp [s0, s1, s2, s7, hlt, hltI, hml, hg2, hzl, hbI]) (fun _ => ?_) (fun h => by cases h)
      refine WS_skip ?_; simp [s0, s1, s2, s7, hlt, hltI, hml, hg2, hzl, hbI]
      refine WS_seq (WS_block (WS_seq (WS_seq (WS_reg [] ?_)))); simp [s0, s1, s2, s7, hlt, hltI, hml, hg2, hzl, hbI]
      refine WS_cond (t := true) (by simp [s0, s1, s2, s7, hlt, hltI, hml, hg2, hzl, hbI]) (fun _ => ?_) (fun h => by cases h)
      refine WS_seq (WS_reg [] ?_); simp [s0, s1, s2, s7, hlt, hltI, hml, hg2, hzl, hbI]
      refine WS_ret ?_; simp [s0, s1, s2, s7, hlt, hltI, hml, hg2, hzl, hbI]
  · obtain rfl : i = Ms.length := by omega
    have hltI : ¬ (Ms.length : Int) < (Ms.length : Int) := by omega
    rw [List.take_length] at hall
    rw [hall]
    refine WS_seq (WS_seq (WS_reg [] ?_)); simp [s0, s1, s2, s7, hltI, hml]
    refine WS_cond (t := false) (by simp [s0, s1, s2, s7, hltI, hml]) (fun h => by cases h) (fun _ => ?_)
    refine WS_exit ?_; simp [s0, s1, s2, s7, hltI, hml]
    refine WS_seq (WS_reg [] ?_); simp [s0, s1, s2, s7, hltI, hml]
    refine WS_ret ?_; simp [s0, s1, s2, s7, hltI, hml]
end Go.Vw
namespace Go.Vw
open Go.Proofs Go.Py

attribute [local simp] RunL_cons RunL_nil AOp_none AOp_some acK_v acK_call agK_tt agK_ff agK_tf agK_ft agK_tup agK_i aop aun St.ev St.heap St.put thenQ blockQ scopeQ upd_apply S0 argSlot lowV V.cells V.isAgg V.fits V.part partOk plains St.ret retSV svOf svsOf retQ retP retAll retOne uL_length uL_get? uL_get St.elems retH ownIdx ownAt
attribute [local simp] RunD_none RunD_some RunD_nil RunE_any acD_v acD_call agD_tt agD_ff agD_tf agD_ft agD_tup entsOf svref SO.opds SO.writes SO.makes callEnt pureSV pureOf RV.isOwn
attribute [local simp] abin_add abin_sub abin_mul abin_quo abin_rem abin_eql abin_neq abin_lss abin_leq abin_gtr abin_geq
attribute [local simp] uL_snoc uL_set uL_take uL_drop uL_append uL_replicate uL_nil
attribute [local simp] acK_callG acD_callG St.giv gsSV gvSV retEnts ownEnts SO.still
attribute [local simp] S0G argSlotG givSV retQG retPG retAllG retOneG HObj.width V.scalar trimQ V.byte
attribute [local simp] zv V.fits fillOk fillV Z_eq
theorem awake10 : Spec Try.prog f_law10_awake [] (· = [.pure (.b true)]) := by
  have n1 : pq [0, 0, 1] [0, 2] = none := rst_place (n := 1) (q := []) (r := [0, 0, 1]) (by decide) (fun i => by rw [mulL, addL]) (fun i hi => cf_ge (by rw [show tr [0, 2] = [0, 2] by decide] at hi; exact hi)) (by decide)
  have s1 : Sml [-1, 0, 1] := by decide
  have s2 : Sml [1, 1] := by decide
  have s3 : Sml [0, 0, 1] := by decide
  have s4 : Sml [0, 2] := by decide
  have s5 : Sml [-1, 1] := by decide
  have s6 : Sml [4, -6] := by decide
  have o1 := ofc s1 (by decide) (by decide)
  have o2 := ofc s2 (by decide) (by decide)
  have o3 := ofc s3 (by decide) (by decide)
  have o4 := ofc s4 (by decide) (by decide)
  have o5 := ofc s5 (by decide) (by decide)
  have o6 := ofc s6 (by decide) (by decide)
  have d1 := pdivq (isP_PZ (pl_small s1)) (isP_PZ (pl_small s2)) (by decide) (by rw [PZ_length]; decide) (by rw [PZ_length]; decide) (by rw [PZ_length]; decide)
  rw [pdivQ_some (q := [-1, 1]) (by decide) (fun i => by rw [show mulL [-1, 1] [1, 1] = [-1, 0, 1] by decide]), show tr [-1, 1] = [-1, 1] by decide] at d1
  have d2 := pdivq (isP_PZ (pl_small s3)) (isP_PZ (pl_small s4)) (by decide) (by rw [PZ_length]; decide) (by rw [PZ_length]; decide) (by rw [PZ_length]; decide)
  rw [pdivQ_none (by decide) n1] at d2
  have sm := same10 [-1, 1] ((pl_small s5).mono (by decide)) (by decide)
  have co := pcontent (isP_PZ (pl_small s6)) (by decide) (by rw [PZ_length]; decide)
  rw [show coL [4, -6] = -2 by decide] at co
  have tt := ztext (k := 1) (isZ_Z (z := -2) (zlen_small (by decide))) (by omega)
  rw [show zT (-2) = [45, 50] by rw [zT, if_pos (by omega)]; decide +kernel] at tt
  have l5 : (PZ [-1, 1]).length = 2 := by rw [PZ_length]; rfl
  obtain ⟨A1, h1⟩ : ∃ A, A = PZ [-1, 0, 1] := ⟨_, rfl⟩
  obtain ⟨A2, h2⟩ : ∃ A, A = PZ [1, 1] := ⟨_, rfl⟩
  obtain ⟨A3, h3⟩ : ∃ A, A = PZ [0, 0, 1] := ⟨_, rfl⟩
  obtain ⟨A4, h4⟩ : ∃ A, A = PZ [0, 2] := ⟨_, rfl⟩
  obtain ⟨A5, h5⟩ : ∃ A, A = PZ [-1, 1] := ⟨_, rfl⟩
  obtain ⟨A6, h6⟩ : ∃ A, A = PZ [4, -6] := ⟨_, rfl⟩
  rw [← h1] at o1 d1
  rw [← h2] at o2 d1
  rw [← h3] at o3 d2
  rw [← h4] at o4 d2
  rw [← h5] at o5 d1 sm l5
  rw [← h6] at o6 co
  refine spec_at Try.func11 ok_law10_awake [] rfl (by simp) ?_
  unfold sc_law10_awake
  refine WS_seq (WS_reg [] ?_); simp [tx, abin_seql, l5]
  refine WS_seq (WS_reg [] ?_); simp [tx, abin_seql, l5]
  refine callK o1 ?_; simp [tx, abin_seql, l5]
  refine callK o2 ?_; simp [tx, abin_seql, l5]
  refine callK d1 ?_; simp [tx, abin_seql, l5]
  refine WS_seq (WS_reg [] ?_); simp [tx, abin_seql, l5]
  refine callK o3 ?_; simp [tx, abin_seql, l5]
  refine callK o4 ?_; simp [tx, abin_seql, l5]
  refine callK d2 ?_; simp [tx, abin_seql, l5]
  refine WS_seq (WS_reg [] ?_); simp [tx, abin_seql, l5]
  refine callK o5 ?_; simp [tx, abin_seql, l5]
  refine callK sm ?_; simp [tx, abin_seql, l5]
  refine callK o6 ?_; simp [tx, abin_seql, l5]
  refine callK co ?_; simp [tx, abin_seql, l5]
  refine callK tt ?_; simp [tx, abin_seql, l5]
  refine WS_ret ?_; simp [tx, abin_seql, l5]
end Go.Vw
namespace Go.Vw
open Go.Proofs Go.Py

theorem ysame {i : Nat} {l : List Int} (h : Ld i l) (hi : i ≤ 40) : Spec Try.prog f_law10_same [.sl (some 2) (PZ l), .sl (some 2) (PZ l)] (· = [.pure (.b true)]) := same10 l (h.pl40 hi) (h.len40 hi)
end Go.Vw
namespace Go.Vw
open Go.Proofs Go.Py

attribute [local simp] RunL_cons RunL_nil AOp_none AOp_some acK_v acK_call agK_tt agK_ff agK_tf agK_ft agK_tup agK_i aop aun St.ev St.heap St.put thenQ blockQ scopeQ upd_apply S0 argSlot lowV V.cells V.isAgg V.fits V.part partOk plains St.ret retSV svOf svsOf retQ retP retAll retOne uL_length uL_get? uL_get St.elems retH ownIdx ownAt
attribute [local simp] RunD_none RunD_some RunD_nil RunE_any acD_v acD_call agD_tt agD_ff agD_tf agD_ft agD_tup entsOf svref SO.opds SO.writes SO.makes callEnt pureSV pureOf RV.isOwn
attribute [local simp] abin_add abin_sub abin_mul abin_quo abin_rem abin_eql abin_neq abin_lss abin_leq abin_gtr abin_geq
attribute [local simp] uL_snoc uL_set uL_take uL_drop uL_append uL_replicate uL_nil
attribute [local simp] acK_callG acD_callG St.giv gsSV gvSV retEnts ownEnts SO.still
attribute [local simp] S0G argSlotG givSV retQG retPG retAllG retOneG HObj.width V.scalar trimQ V.byte
attribute [local simp] zv V.fits fillOk fillV Z_eq
set_option maxHeartbeats 4000000 in
theorem law_ZpolyRing (M1 M2 M3 : List (Bool × List Nat)) (h1 : PW (2 ^ 24) M1) (h2 : PW (2 ^ 24) M2) (h3 : PW (2 ^ 24) M3) :
    Spec Try.prog f_law10_ZpolyRing [.sl (some 2) (zL M1), .sl (some 2) (zL M2), .sl (some 2) (zL M3)] (· = [.pure (.b true)]) := by
  have aw := awake10
  have sm := small10 14 4 (by omega) (by omega) [M1, M2, M3] (by simp) (by
    intro M hM
    simp only [List.mem_cons, List.not_mem_nil, or_false] at hM
    rcases hM with rfl | rfl | rfl
    · have := h1.len; omega
    · have := h2.len; omega
    · have := h3.len; omega)
  have eL : mL [M1, M2, M3] = [.sl (some 2) (zL M1), .sl (some 2) (zL M2), .sl (some 2) (zL M3)] := rfl
  rw [eL] at sm
  by_cases hs : smB 14 4 [M1, M2, M3] = true
  · have hs2 := hs
    simp only [smB, List.all_cons, List.all_nil, Bool.and_true, Bool.and_eq_true] at hs2
    obtain ⟨u1, u2, u3⟩ := hs2
    have ra := ld_rd (w := 4) (n := 14) (i := 4) (by omega) (by omega) h1.each (by simpa using u1)
    have rb := ld_rd (w := 4) (n := 14) (i := 4) (by omega) (by omega) h2.each (by simpa using u2)
    have rc := ld_rd (w := 4) (n := 14) (i := 4) (by omega) (by omega) h3.each (by simpa using u3)
    rw [hs] at sm
    have na := PZ_length (tr (piL M1))
    have nb := PZ_length (tr (piL M2))
    obtain ⟨a, ea⟩ : ∃ a, a = piL M1 := ⟨_, rfl⟩
    obtain ⟨b, eb⟩ : ∃ a, a = piL M2 := ⟨_, rfl⟩
    obtain ⟨c, ec⟩ : ∃ a, a = piL M3 := ⟨_, rfl⟩
    rw [← ea] at ra na
    rw [← eb] at rb nb
    rw [← ec] at rc
    clear ea eb ec u1 u2 u3 hs
    obtain ⟨A, eA⟩ : ∃ A, A = zL M1 := ⟨_, rfl⟩
    obtain ⟨B, eB⟩ : ∃ A, A = zL M2 := ⟨_, rfl⟩
    obtain ⟨C, eC⟩ : ∃ A, A = zL M3 := ⟨_, rfl⟩
    rw [← eA] at ra sm ⊢
    rw [← eB] at rb sm ⊢
    rw [← eC] at rc sm ⊢
    clear eA eB eC eL h1 h2 h3 M1 M2 M3
    have la := ra.ld
    have lb := rb.ld
    have lc := rc.ld
    have e1 := ynorm ra (by omega)
    have e2 := ynorm rb (by omega)
    have e3 := ymul ra rb (by omega)
    have lab := ld_tr (ld_mul la lb)
    have f1 := yadd ra rb (by omega)
    have f2 := yadd rb ra (by omega)
    have sab := ld_tr (ld_add la lb)
    rw [show tr (addL b a) = tr (addL a b) from tr_of_eqp (addL_comm b a)] at f2
    have s1 := ysame sab (by omega)
    have f3 := ymul rb ra (by omega)
    rw [show tr (mulL b a) = tr (mulL a b) from tr_of_eqp (mulL_comm b a)] at f3
    have s2 := ysame lab (by omega)
    have g1 := yadd sab.rd (rc.mono (by omega)) (by omega)
    have g2 := yadd rb rc (by omega)
    have sbc := ld_tr (ld_add lb lc)
    have g3 := yadd (ra.mono (by omega)) sbc.rd (by omega)
    have lg := ld_tr (ld_add sab (lc.mono (by omega)))
    rw [show tr (addL a (tr (addL b c))) = tr (addL (tr (addL a b)) c) from tr_of_eqp ((eqp_addL Eqp.rfl' (cf_tr _)).trans ((addL_assoc a b c).symm.trans (eqp_addL (cf_tr _).symm Eqp.rfl')))] at g3
    have s3 := ysame lg (by omega)
    have k1 := ymul lab.rd (rc.mono (by omega)) (by omega)
    have k2 := ymul rb rc (by omega)
    have lbc := ld_tr (ld_mul lb lc)
    have k3 := ymul (ra.mono (by omega)) lbc.rd (by omega)
    have lk := ld_tr (ld_mul lab (lc.mono (by omega)))
    rw [show tr (mulL a (tr (mulL b c))) = tr (mulL (tr (mulL a b)) c) from tr_of_eqp ((eqp_mulL_right (cf_tr _) a).trans ((mulL_assoc a b c).symm.trans (eqp_mulL_left c (cf_tr _).symm)))] at k3
    have s4 := ysame lk (by omega)
    have m1 := ymul (ra.mono (by omega)) sbc.rd (by omega)
    have m2 := ymul ra rc (by omega)
    have lac := ld_tr (ld_mul la lc)
    have m3 := yadd lab.rd lac.rd (by omega)
    have lm := ld_tr (ld_add lab lac)
    rw [show tr (mulL a (tr (addL b c))) = tr (addL (tr (mulL a b)) (tr (mulL a c))) from tr_of_eqp ((eqp_mulL_right (cf_tr _) a).trans ((mulL_addL_right a b c).trans (eqp_addL (cf_tr _).symm (cf_tr _).symm)))] at m1
    have s5 := ysame lm (by omega)
    have n1 := ysub sab.rd (rb.mono (by omega)) (by omega)
    have e9 : tr (addL (tr (addL a b)) (scL (-1) b)) = tr a := tr_of_eqp fun i => by rw [cf_addL, cf_tr, cf_addL, cf_scL]; omega
    rw [e9] at n1
    have s6 := ysame (ld_tr la) (by omega)
    have nab := PZ_length (tr (mulL a b))
    have key : ((tr (mulL a b)).length = 0 ∧ ((tr a).length = 0 ∨ (0 < (tr a).length ∧ (tr b).length = 0))) ∨ (0 < (tr (mulL a b)).length ∧ (tr (mulL a b)).length = (tr a).length + (tr b).length - 1 ∧ 0 < (tr a).length ∧ 0 < (tr b).length) := by
      by_cases za : tr a = []
      · left; rw [tr_mulL_nil.2 (.inl za), za]; simp
      · have pa := List.length_pos_iff.2 za
        by_cases zb : tr b = []
        · left; rw [tr_mulL_nil.2 (.inr zb), zb]; simp; omega
        · have pb := List.length_pos_iff.2 zb
          right; rw [tr_mulL_len za zb]; omega
    have b1 := (ld_tr la).len
    have b2 := (ld_tr lb).len
    obtain ⟨x, hx⟩ : ∃ n, n = (tr a).length := ⟨_, rfl⟩
    obtain ⟨y, hy⟩ : ∃ n, n = (tr b).length := ⟨_, rfl⟩
    obtain ⟨z, hz⟩ : ∃ n, n = (tr (mulL a b)).length := ⟨_, rfl⟩
    rw [← hx] at key na b1
    rw [← hy] at key nb b2
    rw [← hz] at key nab
    obtain ⟨W1, w1⟩ : ∃ W, W = PZ (tr a) := ⟨_, rfl⟩
    obtain ⟨W2, w2⟩ : ∃ W, W = PZ (tr b) := ⟨_, rfl⟩
    obtain ⟨W3, w3⟩ : ∃ W, W = PZ (tr (mulL a b)) := ⟨_, rfl⟩
    obtain ⟨W4, w4⟩ : ∃ W, W = PZ (tr (addL a b)) := ⟨_, rfl⟩
    obtain ⟨W5, w5⟩ : ∃ W, W = PZ (tr (addL b c)) := ⟨_, rfl⟩
    obtain ⟨W6, w6⟩ : ∃ W, W = PZ (tr (mulL b c)) := ⟨_, rfl⟩
    obtain ⟨W7, w7⟩ : ∃ W, W = PZ (tr (mulL a c)) := ⟨_, rfl⟩
    obtain ⟨V1, v1⟩ : ∃ W, W = PZ (tr (addL (tr (addL a b)) c)) := ⟨_, rfl⟩
    obtain ⟨V2, v2⟩ : ∃ W, W = PZ (tr (mulL (tr (mulL a b)) c)) := ⟨_, rfl⟩
    obtain ⟨V3, v3⟩ : ∃ W, W = PZ (tr (addL (tr (mulL a b)) (tr (mulL a c)))) := ⟨_, rfl⟩
    rw [← w1] at e1 na n1 s6
    rw [← w2] at e2 nb
    rw [← w3] at e3 f3 s2 k1 m3 nab
    rw [← w4] at f1 f2 s1 g1 n1
    rw [← w5] at g2 g3 m1
    rw [← w6] at k2 k3
    rw [← w7] at m2 m3
    rw [← v1] at g1 g3 s3
    rw [← v2] at k1 k3 s4
    rw [← v3] at m1 m3 s5
    have hdeg : ∀ P : Prop, P → P := fun _ h => h
    rcases key with ⟨z0, z1⟩ | ⟨z0, z1, z2, z3⟩
    · subst z0
      rcases z1 with z1 | ⟨z2, z1⟩
      · subst z1
        refine spec_at Try.func6 ok_law10_ZpolyRing [] rfl (by simp) ?_
        unfold sc_law10_ZpolyRing
        refine WS_seq (WS_reg [] ?_); simp [na, nb, nab]
        refine WS_seq (WS_reg [] ?_); simp [na, nb, nab]
        refine callK aw ?_; simp [na, nb, nab]
        refine WS_seq (WS_seq (WS_reg [] ?_)); simp [na, nb, nab]
        refine callK sm ?_; simp [na, nb, nab]
        refine WS_cond (t := false) (by simp [na, nb, nab]) (fun h => by cases h) (fun _ => ?_)
        refine WS_skip ?_; simp [na, nb, nab]
        refine WS_seq (WS_reg [] ?_); simp [na, nb, nab]
        refine callK e1 ?_; simp [na, nb, nab]
        refine WS_seq (WS_reg [] ?_); simp [na, nb, nab]
        refine callK e2 ?_; simp [na, nb, nab]
        refine WS_seq (WS_reg [] ?_); simp [na, nb, nab]
        refine callK e3 ?_; simp [na, nb, nab]
        refine WS_seq (WS_reg [] ?_); simp [na, nb, nab]
        refine WS_seq (WS_reg [] ?_); simp [na, nb, nab]
        refine callK f1 ?_; simp [na, nb, nab]
        refine callK f2 ?_; simp [na, nb, nab]
        refine callK s1 ?_; simp [na, nb, nab]
        refine callK f3 ?_; simp [na, nb, nab]
        refine callK s2 ?_; simp [na, nb, nab]
        refine callK f1 ?_; simp [na, nb, nab]
        refine callK g1 ?_; simp [na, nb, nab]
        refine callK g2 ?_; simp [na, nb, nab]
        refine callK g3 ?_; simp [na, nb, nab]
        refine callK s3 ?_; simp [na, nb, nab]
        refine callK k1 ?_; simp [na, nb, nab]
        refine callK k2 ?_; simp [na, nb, nab]
        refine callK k3 ?_; simp [na, nb, nab]
        refine callK s4 ?_; simp [na, nb, nab]
        refine callK g2 ?_; simp [na, nb, nab]
        refine callK m1 ?_; simp [na, nb, nab]
        refine callK m2 ?_; simp [na, nb, nab]
        refine callK m3 ?_; simp [na, nb, nab]
        refine callK s5 ?_; simp [na, nb, nab]
        refine callK f1 ?_; simp [na, nb, nab]
        refine callK n1 ?_; simp [na, nb, nab]
        refine callK s6 ?_; simp [na, nb, nab]
        refine WS_ret ?_; simp [na, nb, nab]
      · subst z1
        have z2' : ¬ x = 0 := by omega
        have z2B : ((x : Int) == 0) = false := by simp; omega
        refine spec_at Try.func6 ok_law10_ZpolyRing [] rfl (by simp) ?_
        unfold sc_law10_ZpolyRing
        refine WS_seq (WS_reg [] ?_); simp [na, nb, nab, z2, z2', z2B]
        refine WS_seq (WS_reg [] ?_); simp [na, nb, nab, z2, z2', z2B]
        refine callK aw ?_; simp [na, nb, nab, z2, z2', z2B]
        refine WS_seq (WS_seq (WS_reg [] ?_)); simp [na, nb, nab, z2, z2', z2B]
        refine callK sm ?_; simp [na, nb, nab, z2, z2', z2B]
        refine WS_cond (t := false) (by simp [na, nb, nab, z2, z2', z2B]) (fun h => by cases h) (fun _ => ?_)
        refine WS_skip ?_; simp [na, nb, nab, z2, z2', z2B]
        refine WS_seq (WS_reg [] ?_); simp [na, nb, nab, z2, z2', z2B]
        refine callK e1 ?_; simp [na, nb, nab, z2, z2', z2B]
        refine WS_seq (WS_reg [] ?_); simp [na, nb, nab, z2, z2', z2B]
        refine callK e2 ?_; simp [na, nb, nab, z2, z2', z2B]
        refine WS_seq (WS_reg [] ?_); simp [na, nb, nab, z2, z2', z2B]
        refine callK e3 ?_; simp [na, nb, nab, z2, z2', z2B]
        refine WS_seq (WS_reg [] ?_); simp [na, nb, nab, z2, z2', z2B]
        refine WS_seq (WS_reg [] ?_); simp [na, nb, nab, z2, z2', z2B]
        refine callK f1 ?_; simp [na, nb, nab, z2, z2', z2B]
        refine callK f2 ?_; simp [na, nb, nab, z2, z2', z2B]
        refine callK s1 ?_; simp [na, nb, nab, z2, z2', z2B]
        refine callK f3 ?_; simp [na, nb, nab, z2, z2', z2B]
        refine callK s2 ?_; simp [na, nb, nab, z2, z2', z2B]
        refine callK f1 ?_; simp [na, nb, nab, z2, z2', z2B]
        refine callK g1 ?_; simp [na, nb, nab, z2, z2', z2B]
        refine callK g2 ?_; simp [na, nb, nab, z2, z2', z2B]
        refine callK g3 ?_; simp [na, nb, nab, z2, z2', z2B]
        refine callK s3 ?_; simp [na, nb, nab, z2, z2', z2B]
        refine callK k1 ?_; simp [na, nb, nab, z2, z2', z2B]
        refine callK k2 ?_; simp [na, nb, nab, z2, z2', z2B]
        refine callK k3 ?_; simp [na, nb, nab, z2, z2', z2B]
        refine callK s4 ?_; simp [na, nb, nab, z2, z2', z2B]
        refine callK g2 ?_; simp [na, nb, nab, z2, z2', z2B]
        refine callK m1 ?_; simp [na, nb, nab, z2, z2', z2B]
        refine callK m2 ?_; simp [na, nb, nab, z2, z2', z2B]
        refine callK m3 ?_; simp [na, nb, nab, z2, z2', z2B]
        refine callK s5 ?_; simp [na, nb, nab, z2, z2', z2B]
        refine callK f1 ?_; simp [na, nb, nab, z2, z2', z2B]
        refine callK n1 ?_; simp [na, nb, nab, z2, z2', z2B]
        refine callK s6 ?_; simp [na, nb, nab, z2, z2', z2B]
        refine WS_ret ?_; simp [na, nb, nab, z2, z2', z2B]
    · have z0' : ¬ z = 0 := by omega
      have z0B : ((z : Int) == 0) = false := by simp; omega
      have z0I : (0 : Int) < (z : Int) := by omega
      have w1' : IntKind.i64.wrap ((x : Int) + (y : Int)) = (x : Int) + (y : Int) := i64_int _ (by omega) (by omega)
      have w2' : IntKind.i64.wrap ((x : Int) + (y : Int) - 1) = (z : Int) := by rw [show (x : Int) + (y : Int) - 1 = (z : Int) by omega]; exact i64_nat _ (by omega)
      refine spec_at Try.func6 ok_law10_ZpolyRing [] rfl (by simp) ?_
      unfold sc_law10_ZpolyRing
      refine WS_seq (WS_reg [] ?_); simp [na, nb, nab, z0, z0', z0B, z0I, w1', w2']
      refine WS_seq (WS_reg [] ?_); simp [na, nb, nab, z0, z0', z0B, z0I, w1', w2']
      refine callK aw ?_; simp [na, nb, nab, z0, z0', z0B, z0I, w1', w2']
      refine WS_seq (WS_seq (WS_reg [] ?_)); simp [na, nb, nab, z0, z0', z0B, z0I, w1', w2']
      refine callK sm ?_; simp [na, nb, nab, z0, z0', z0B, z0I, w1', w2']
      refine WS_cond (t := false) (by simp [na, nb, nab, z0, z0', z0B, z0I, w1', w2']) (fun h => by cases h) (fun _ => ?_)
      refine WS_skip ?_; simp [na, nb, nab, z0, z0', z0B, z0I, w1', w2']
      refine WS_seq (WS_reg [] ?_); simp [na, nb, nab, z0, z0', z0B, z0I, w1', w2']
      refine callK e1 ?_; simp [na, nb, nab, z0, z0', z0B, z0I, w1', w2']
      refine WS_seq (WS_reg [] ?_); simp [na, nb, nab, z0, z0', z0B, z0I, w1', w2']
      refine callK e2 ?_; simp [na, nb, nab, z0, z0', z0B, z0I, w1', w2']
      refine WS_seq (WS_reg [] ?_); simp [na, nb, nab, z0, z0', z0B, z0I, w1', w2']
      refine callK e3 ?_; simp [na, nb, nab, z0, z0', z0B, z0I, w1', w2']
      refine WS_seq (WS_reg [] ?_); simp [na, nb, nab, z0, z0', z0B, z0I, w1', w2']
      refine WS_seq (WS_reg [] ?_); simp [na, nb, nab, z0, z0', z0B, z0I, w1', w2']
      refine callK f1 ?_; simp [na, nb, nab, z0, z0', z0B, z0I, w1', w2']
      refine callK f2 ?_; simp [na, nb, nab, z0, z0', z0B, z0I, w1', w2']
      refine callK s1 ?_; simp [na, nb, nab, z0, z0', z0B, z0I, w1', w2']
      refine callK f3 ?_; simp [na, nb, nab, z0, z0', z0B, z0I, w1', w2']
      refine callK s2 ?_; simp [na, nb, nab, z0, z0', z0B, z0I, w1', w2']
      refine callK f1 ?_; simp [na, nb, nab, z0, z0', z0B, z0I, w1', w2']
      refine callK g1 ?_; simp [na, nb, nab, z0, z0', z0B, z0I, w1', w2']
      refine callK g2 ?_; simp [na, nb, nab, z0, z0', z0B, z0I, w1', w2']
      refine callK g3 ?_; simp [na, nb, nab, z0, z0', z0B, z0I, w1', w2']
      refine callK s3 ?_; simp [na, nb, nab, z0, z0', z0B, z0I, w1', w2']
      refine callK k1 ?_; simp [na, nb, nab, z0, z0', z0B, z0I, w1', w2']
      refine callK k2 ?_; simp [na, nb, nab, z0, z0', z0B, z0I, w1', w2']
      refine callK k3 ?_; simp [na, nb, nab, z0, z0', z0B, z0I, w1', w2']
      refine callK s4 ?_; simp [na, nb, nab, z0, z0', z0B, z0I, w1', w2']
      refine callK g2 ?_; simp [na, nb, nab, z0, z0', z0B, z0I, w1', w2']
      refine callK m1 ?_; simp [na, nb, nab, z0, z0', z0B, z0I, w1', w2']
      refine callK m2 ?_; simp [na, nb, nab, z0, z0', z0B, z0I, w1', w2']
      refine callK m3 ?_; simp [na, nb, nab, z0, z0', z0B, z0I, w1', w2']
      refine callK s5 ?_; simp [na, nb, nab, z0, z0', z0B, z0I, w1', w2']
      refine callK f1 ?_; simp [na, nb, nab, z0, z0', z0B, z0I, w1', w2']
      refine callK n1 ?_; simp [na, nb, nab, z0, z0', z0B, z0I, w1', w2']
      refine callK s6 ?_; simp [na, nb, nab, z0, z0', z0B, z0I, w1', w2']
      refine WS_ret ?_; simp [na, nb, nab, z0, z0', z0B, z0I, w1', w2']
  · have hs' : smB 14 4 [M1, M2, M3] = false := by simpa using hs
    rw [hs'] at sm
    refine spec_at Try.func6 ok_law10_ZpolyRing [] rfl (by simp) ?_
    unfold sc_law10_ZpolyRing
    refine WS_seq (WS_reg [] ?_); simp
    refine WS_seq (WS_reg [] ?_); simp
    refine callK aw ?_; simp
    refine WS_seq (WS_seq (WS_reg [] ?_)); simp
    refine callK sm ?_; simp
    refine WS_cond (t := true) (by simp) (fun _ => ?_) (fun h => by cases h)
    refine WS_seq (WS_reg [] ?_); simp
    refine WS_ret ?_; simp
end Go.Vw
namespace Go.Vw
open Go.Proofs Go.Py

attribute [local simp] RunL_cons RunL_nil AOp_none AOp_some acK_v acK_call agK_tt agK_ff agK_tf agK_ft agK_tup agK_i aop aun St.ev St.heap St.put thenQ blockQ scopeQ upd_apply S0 argSlot lowV V.cells V.isAgg V.fits V.part partOk plains St.ret retSV svOf svsOf retQ retP retAll retOne uL_length uL_get? uL_get St.elems retH ownIdx ownAt
attribute [local simp] RunD_none RunD_some RunD_nil RunE_any acD_v acD_call agD_tt agD_ff agD_tf agD_ft agD_tup entsOf svref SO.opds SO.writes SO.makes callEnt pureSV pureOf RV.isOwn
attribute [local simp] abin_add abin_sub abin_mul abin_quo abin_rem abin_eql abin_neq abin_lss abin_leq abin_gtr abin_geq
attribute [local simp] uL_snoc uL_set uL_take uL_drop uL_append uL_replicate uL_nil
attribute [local simp] acK_callG acD_callG St.giv gsSV gvSV retEnts ownEnts SO.still
attribute [local simp] S0G argSlotG givSV retQG retPG retAllG retOneG HObj.width V.scalar trimQ V.byte
attribute [local simp] zv V.fits fillOk fillV Z_eq
set_option maxHeartbeats 4000000 in
theorem law_ZpolyGauss (M1 M2 : List (Bool × List Nat)) (h1 : PW (2 ^ 24) M1) (h2 : PW (2 ^ 24) M2) :
    Spec Try.prog f_law10_ZpolyGauss [.sl (some 2) (zL M1), .sl (some 2) (zL M2)] (· = [.pure (.b true)]) := by
  have aw := awake10
  have sm := small10 14 3 (by omega) (by omega) [M1, M2] (by simp) (by
    intro M hM
    simp only [List.mem_cons, List.not_mem_nil, or_false] at hM
    rcases hM with rfl | rfl
    · have := h1.len; omega
    · have := h2.len; omega)
  have eL : mL [M1, M2] = [.sl (some 2) (zL M1), .sl (some 2) (zL M2)] := rfl
  rw [eL] at sm
  by_cases hs : smB 14 3 [M1, M2] = true
  · have ra := ld_rd (w := 3) (n := 14) (i := 4) (by omega) (by omega) h1.each (small_of hs (by simp))
    have rb := ld_rd (w := 3) (n := 14) (i := 4) (by omega) (by omega) h2.each (small_of hs (by simp))
    rw [hs] at sm
    obtain ⟨a, ea⟩ : ∃ a, a = piL M1 := ⟨_, rfl⟩
    obtain ⟨b, eb⟩ : ∃ a, a = piL M2 := ⟨_, rfl⟩
    rw [← ea] at ra
    rw [← eb] at rb
    clear ea eb hs
    obtain ⟨A, eA⟩ : ∃ A, A = zL M1 := ⟨_, rfl⟩
    obtain ⟨B, eB⟩ : ∃ A, A = zL M2 := ⟨_, rfl⟩
    rw [← eA] at ra sm ⊢
    rw [← eB] at rb sm ⊢
    clear eA eB eL h1 h2 M1 M2
    have la := ra.ld
    have lb := rb.ld
    have lab := ld_tr (ld_mul la lb)
    have e1 := ymul ra rb (by omega)
    have e2 := ycontent lab.rd (by omega)
    rw [coL_tr, coL_mul] at e2
    have e3 := yprim ra (by omega)
    have c1 := ycontent ra (by omega)
    have c2 := ycontent rb (by omega)
    have za := coL_len la.pl
    have zb := coL_len lb.pl
    have zab := zlen_mul (coL a) (coL b)
    have mu := zmul (isZ_of (x := coL a) (k := 2 ^ 4) (by omega)) (isZ_of (x := coL b) (k := 2 ^ 4) (by omega)) (by omega)
    have s1 := rsame2 (x := coL a * coL b) (k := 2 ^ 6) (by omega) (by omega)
    have e4 := yprim lab.rd (by omega)
    rw [ppL_eqp (cf_tr (mulL a b))] at e4
    have e5 := yprim rb (by omega)
    have lp := ld_pp la
    have lq := ld_pp lb
    have e6 := ymul lp.rd lq.rd (by omega)
    have e7 : tr (mulL (ppL a) (ppL b)) = ppL (mulL a b) := by rw [tr_of_eqp (ppL_prod a b).symm, tr_ppL]
    rw [e7] at e6
    have s2 := ysame (ld_pp (ld_mul la lb)) (by omega)
    have e8 := yscale lp.rd (isZ_of (x := coL a) (k := 2 ^ 4) (by omega)) (by omega)
    have e9 : tr (scL (coL a) (ppL a)) = tr a := tr_of_eqp (ppL_mul a).symm
    rw [e9] at e8
    have f1 := ynorm ra (by omega)
    have s3 := ysame (ld_tr la) (by omega)
    have f2 := ycontent lp.rd (by omega)
    have o1 := zof 1 (by omega) (by omega)
    have np := PZ_length (ppL a)
    rw [ppL_len] at np
    have nl := (ld_tr la).len
    obtain ⟨ca, hca⟩ : ∃ c, c = coL a := ⟨_, rfl⟩
    obtain ⟨cb, hcb⟩ : ∃ c, c = coL b := ⟨_, rfl⟩
    rw [← hca, ← hcb] at mu
    rw [← hca, ← hcb] at e2 s1
    rw [← hca] at c1 e8
    rw [← hcb] at c2
    obtain ⟨m, hm⟩ : ∃ m, m = ca * cb := ⟨_, rfl⟩
    rw [← hm] at mu e2 s1
    obtain ⟨W1, w1⟩ : ∃ W, W = PZ (tr (mulL a b)) := ⟨_, rfl⟩
    obtain ⟨W2, w2⟩ : ∃ W, W = PZ (ppL (mulL a b)) := ⟨_, rfl⟩
    obtain ⟨W3, w3⟩ : ∃ W, W = PZ (ppL a) := ⟨_, rfl⟩
    obtain ⟨W4, w4⟩ : ∃ W, W = PZ (ppL b) := ⟨_, rfl⟩
    obtain ⟨W5, w5⟩ : ∃ W, W = PZ (tr a) := ⟨_, rfl⟩
    rw [← w1] at e1 e2 e4
    rw [← w2] at e4 e6 s2
    rw [← w3] at e3 e6 e8 f2 np
    rw [← w4] at e5 e6
    rw [← w5] at e8 f1 s3
    by_cases h0 : tr a = []
    · rw [h0] at np
      refine spec_at Try.func4 ok_law10_ZpolyGauss [] rfl (by simp) ?_
      unfold sc_law10_ZpolyGauss
      refine WS_seq (WS_reg [] ?_); simp [np]
      refine WS_seq (WS_reg [] ?_); simp [np]
      refine callK aw ?_; simp [np]
      refine WS_seq (WS_seq (WS_reg [] ?_)); simp [np]
      refine callK sm ?_; simp [np]
      refine WS_cond (t := false) (by simp [np]) (fun h => by cases h) (fun _ => ?_)
      refine WS_skip ?_; simp [np]
      refine WS_seq (WS_reg [] ?_); simp [np]
      refine callK e1 ?_; simp [np]
      refine WS_seq (WS_reg [] ?_); simp [np]
      refine callK e2 ?_; simp [np]
      refine WS_seq (WS_reg [] ?_); simp [np]
      refine callK e3 ?_; simp [np]
      refine WS_seq (WS_regD [] ?_); simp [np]
      refine callD c1 rfl ?_; simp [np]
      refine callD c2 rfl ?_; simp [np]
      refine callD mu rfl ?_; simp [np]
      refine callD s1 rfl ?_; simp [np]
      refine callD e4 rfl ?_; simp [np]
      refine callD e5 rfl ?_; simp [np]
      refine callD e6 rfl ?_; simp [np]
      refine callD s2 rfl ?_; simp [np]
      refine callD c1 rfl ?_; simp [np]
      refine callD e8 rfl ?_; simp [np]
      refine callD f1 rfl ?_; simp [np]
      refine callD s3 rfl ?_; simp [np]
      refine ⟨rfl, ?_⟩
      refine WS_ret ?_; simp [np]
    · have hp := List.length_pos_iff.2 h0
      obtain ⟨n, hn⟩ : ∃ n, n = (tr a).length := ⟨_, rfl⟩
      rw [← hn] at np hp
      have hpB : ((n : Int) == 0) = false := by simp; omega
      have hpN : ¬ n = 0 := by omega
      rw [coL_ppL h0] at f2
      have cm := zcmp (isZ_of (x := 1) (k := 1) zlen_one) (isZ_of (x := 1) (k := 1) zlen_one) (by omega)
      rw [show ((1 : Int) - 1).sign = 0 by decide] at cm
      refine spec_at Try.func4 ok_law10_ZpolyGauss [] rfl (by simp) ?_
      unfold sc_law10_ZpolyGauss
      refine WS_seq (WS_reg [] ?_); simp [np, hpB, hpN, hp]
      refine WS_seq (WS_reg [] ?_); simp [np, hpB, hpN, hp]
      refine callK aw ?_; simp [np, hpB, hpN, hp]
      refine WS_seq (WS_seq (WS_reg [] ?_)); simp [np, hpB, hpN, hp]
      refine callK sm ?_; simp [np, hpB, hpN, hp]
      refine WS_cond (t := false) (by simp [np, hpB, hpN, hp]) (fun h => by cases h) (fun _ => ?_)
      refine WS_skip ?_; simp [np, hpB, hpN, hp]
      refine WS_seq (WS_reg [] ?_); simp [np, hpB, hpN, hp]
      refine callK e1 ?_; simp [np, hpB, hpN, hp]
      refine WS_seq (WS_reg [] ?_); simp [np, hpB, hpN, hp]
      refine callK e2 ?_; simp [np, hpB, hpN, hp]
      refine WS_seq (WS_reg [] ?_); simp [np, hpB, hpN, hp]
      refine callK e3 ?_; simp [np, hpB, hpN, hp]
      refine WS_seq (WS_regD [] ?_); simp [np, hpB, hpN, hp]
      refine callD c1 rfl ?_; simp [np, hpB, hpN, hp]
      refine callD c2 rfl ?_; simp [np, hpB, hpN, hp]
      refine callD mu rfl ?_; simp [np, hpB, hpN, hp]
      refine callD s1 rfl ?_; simp [np, hpB, hpN, hp]
      refine callD e4 rfl ?_; simp [np, hpB, hpN, hp]
      refine callD e5 rfl ?_; simp [np, hpB, hpN, hp]
      refine callD e6 rfl ?_; simp [np, hpB, hpN, hp]
      refine callD s2 rfl ?_; simp [np, hpB, hpN, hp]
      refine callD c1 rfl ?_; simp [np, hpB, hpN, hp]
      refine callD e8 rfl ?_; simp [np, hpB, hpN, hp]
      refine callD f1 rfl ?_; simp [np, hpB, hpN, hp]
      refine callD s3 rfl ?_; simp [np, hpB, hpN, hp]
      refine callD f2 rfl ?_; simp [np, hpB, hpN, hp]
      refine callD o1 rfl ?_; simp [np, hpB, hpN, hp]
      refine callD cm rfl ?_; simp [np, hpB, hpN, hp]
      refine ⟨rfl, ?_⟩
      refine WS_ret ?_; simp [np, hpB, hpN, hp]
  · have hs' : smB 14 3 [M1, M2] = false := by simpa using hs
    rw [hs'] at sm
    refine spec_at Try.func4 ok_law10_ZpolyGauss [] rfl (by simp) ?_
    unfold sc_law10_ZpolyGauss
    refine WS_seq (WS_reg [] ?_); simp
    refine WS_seq (WS_reg [] ?_); simp
    refine callK aw ?_; simp
    refine WS_seq (WS_seq (WS_reg [] ?_)); simp
    refine callK sm ?_; simp
    refine WS_cond (t := true) (by simp) (fun _ => ?_) (fun h => by cases h)
    refine WS_seq (WS_reg [] ?_); simp
    refine WS_ret ?_; simp
end Go.Vw
namespace Go.Vw
open Go.Proofs Go.Py

attribute [local simp] RunL_cons RunL_nil AOp_none AOp_some acK_v acK_call agK_tt agK_ff agK_tf agK_ft agK_tup agK_i aop aun St.ev St.heap St.put thenQ blockQ scopeQ upd_apply S0 argSlot lowV V.cells V.isAgg V.fits V.part partOk plains St.ret retSV svOf svsOf retQ retP retAll retOne uL_length uL_get? uL_get St.elems retH ownIdx ownAt
attribute [local simp] RunD_none RunD_some RunD_nil RunE_any acD_v acD_call agD_tt agD_ff agD_tf agD_ft agD_tup entsOf svref SO.opds SO.writes SO.makes callEnt pureSV pureOf RV.isOwn
attribute [local simp] abin_add abin_sub abin_mul abin_quo abin_rem abin_eql abin_neq abin_lss abin_leq abin_gtr abin_geq
attribute [local simp] uL_snoc uL_set uL_take uL_drop uL_append uL_replicate uL_nil
attribute [local simp] acK_callG acD_callG St.giv gsSV gvSV retEnts ownEnts SO.still
attribute [local simp] S0G argSlotG givSV retQG retPG retAllG retOneG HObj.width V.scalar trimQ V.byte
attribute [local simp] zv V.fits fillOk fillV Z_eq
set_option maxHeartbeats 4000000 in
theorem law_ZpolyExact (M1 M2 : List (Bool × List Nat)) (h1 : PW (2 ^ 24) M1) (h2 : PW (2 ^ 24) M2) :
    Spec Try.prog f_law10_ZpolyExact [.sl (some 2) (zL M1), .sl (some 2) (zL M2)] (· = [.pure (.b true)]) := by
  have aw := awake10
  have sm := small10 16 4 (by omega) (by omega) [M1, M2] (by simp) (by
    intro M hM
    simp only [List.mem_cons, List.not_mem_nil, or_false] at hM
    rcases hM with rfl | rfl
    · have := h1.len; omega
    · have := h2.len; omega)
  have eL : mL [M1, M2] = [.sl (some 2) (zL M1), .sl (some 2) (zL M2)] := rfl
  rw [eL] at sm
  by_cases hs : smB 16 4 [M1, M2] = true
  · have ra := ld_rd (w := 4) (n := 16) (i := 4) (by omega) (by omega) h1.each (small_of hs (by simp))
    have rb := ld_rd (w := 4) (n := 16) (i := 4) (by omega) (by omega) h2.each (small_of hs (by simp))
    rw [hs] at sm
    obtain ⟨a, ea⟩ : ∃ a, a = piL M1 := ⟨_, rfl⟩
    obtain ⟨b, eb⟩ : ∃ a, a = piL M2 := ⟨_, rfl⟩
    rw [← ea] at ra
    rw [← eb] at rb
    clear ea eb hs
    obtain ⟨A, eA⟩ : ∃ A, A = zL M1 := ⟨_, rfl⟩
    obtain ⟨B, eB⟩ : ∃ A, A = zL M2 := ⟨_, rfl⟩
    rw [← eA] at ra sm ⊢
    rw [← eB] at rb sm ⊢
    clear eA eB eL h1 h2 M1 M2
    have la := ra.ld
    have lb := rb.ld
    have lab := ld_tr (ld_mul la lb)
    have e1 := ynorm rb (by omega)
    have e2 := ymul ra rb (by omega)
    have e3 := ydiv lab.rd (rb.mono (by omega)) (by omega)
    have e4 := ydiv ra rb (by omega)
    have nb := PZ_length (tr b)
    by_cases h0 : tr b = []
    · rw [pdivQ_zero h0] at e3 e4
      rw [h0] at nb e1
      obtain ⟨W1, w1⟩ : ∃ W, W = PZ (tr (mulL a b)) := ⟨_, rfl⟩
      rw [← w1] at e2 e3
      obtain ⟨W2, w2⟩ : ∃ W, W = PZ [] := ⟨_, rfl⟩
      rw [← w2] at nb e1
      refine spec_at Try.func5 ok_law10_ZpolyExact [] rfl (by simp) ?_
      unfold sc_law10_ZpolyExact
      refine WS_seq (WS_reg [] ?_); simp [nb]
      refine WS_seq (WS_reg [] ?_); simp [nb]
      refine callK aw ?_; simp [nb]
      refine WS_seq (WS_seq (WS_reg [] ?_)); simp [nb]
      refine callK sm ?_; simp [nb]
      refine WS_cond (t := false) (by simp [nb]) (fun h => by cases h) (fun _ => ?_)
      refine WS_skip ?_; simp [nb]
      refine WS_seq (WS_reg [] ?_); simp [nb]
      refine callK e1 ?_; simp [nb]
      refine WS_seq (WS_reg [] ?_); simp [nb]
      refine callK e2 ?_; simp [nb]
      refine callK e3 ?_; simp [nb]
      refine WS_seq (WS_reg [] ?_); simp [nb]
      refine callK e4 ?_; simp [nb]
      refine WS_seq (WS_seq (WS_reg [] ?_)); simp [nb]
      refine WS_cond (t := true) (by simp [nb]) (fun _ => ?_) (fun h => by cases h)
      refine WS_seq (WS_reg [] ?_); simp [nb]
      refine WS_ret ?_; simp [nb]
    · have hp := List.length_pos_iff.2 h0
      rw [pdivQ_some h0 (cf_tr (mulL a b))] at e3
      have o1 := ofc (l := [1]) (by decide) (by decide) (by decide)
      have l1 : Ld 6 [1] := ⟨(pl_small (l := [1]) (by decide)).mono (by decide), by decide⟩
      have e5 := yadd (lab.rd) l1.rd (by omega)
      have l5 := ld_tr (ld_add lab l1)
      have e6 := ydiv l5.rd (rb.mono (by omega)) (by omega)
      have s1 := ysame (ld_tr la) (by omega)
      have f1 := ynorm ra (by omega)
      have om := one_more (a := a) h0
      have eq5 : Eqp (tr (addL (tr (mulL a b)) [1])) (addL (mulL a b) [1]) := (cf_tr _).trans (eqp_addL (cf_tr _) Eqp.rfl')
      have gl := (ld_tr lb).pl
      -- the three answers
      have c6 : (pdivQ (tr (addL (tr (mulL a b)) [1])) b = [.pure (.sl (some 2) []), .pure (.i .i64 4)] ∧ tr b ≠ [1] ∧ tr b ≠ [-1]) ∨ ∃ Q, pdivQ (tr (addL (tr (mulL a b)) [1])) b = [.pure (.sl (some 2) Q), .pure (.i .i64 0)] ∧ (tr b = [1] ∨ tr b = [-1]) := by
        rcases om with ⟨hy, q, hq⟩ | ⟨hy, hq⟩
        · exact .inr ⟨_, pdivQ_some h0 (eq5.trans hq), hy⟩
        · exact .inl ⟨pdivQ_none h0 (pq_none fun q h => hq q (eq5.symm.trans h)), hy.1, hy.2⟩
      have c4 : pdivQ a b = [.pure (.sl (some 2) []), .pure (.i .i64 4)] ∨ ∃ q, pdivQ a b = [.pure (.sl (some 2) (PZ q)), .pure (.i .i64 0)] ∧ Ld 10 q ∧ tr (mulL q b) = tr a := by
        cases hq : pq a b with
        | none => exact .inl (pdivQ_none h0 hq)
        | some q =>
          obtain ⟨h3, h4⟩ := pq_inv hq
          refine .inr ⟨q, ?_, ld_q la lb h0 h3 h4, (tr_of_eqp h3).symm⟩
          rw [pdivQ, if_neg h0, hq]
      obtain ⟨n, hn⟩ : ∃ n, n = (tr b).length := ⟨_, rfl⟩
      have hnl : n ≤ 2 ^ 4 := by rw [hn]; exact (ld_tr lb).len
      rw [← hn] at nb hp
      have hpB : ((n : Int) == 0) = false := by simp; omega
      have hpN : ¬ n = 0 := by omega
      obtain ⟨W3, w3⟩ : ∃ W, W = PZ (tr a) := ⟨_, rfl⟩
      obtain ⟨W1, w1⟩ : ∃ W, W = PZ (tr (mulL a b)) := ⟨_, rfl⟩
      obtain ⟨W4, w4⟩ : ∃ W, W = PZ [1] := ⟨_, rfl⟩
      obtain ⟨W5, w5⟩ : ∃ W, W = PZ (tr (addL (tr (mulL a b)) [1])) := ⟨_, rfl⟩
      rw [← w1] at e2 e3 e5
      rw [← w3] at e3 s1 f1
      rw [← w4] at o1 e5
      rw [← w5] at e5 e6
      have u1 := zof 1 (by omega) (by omega)
      have u2 := zof (-1) (by omega) (by omega)
      have cm1 := fun y (hy : zlen y ≤ 2 ^ 4) => zcmp (isZ_of (x := y) (k := 2 ^ 4) hy) (isZ_of (x := 1) (k := 2 ^ 4) (by have := zlen_one; omega)) (by omega)
      have cm2 := fun y (hy : zlen y ≤ 2 ^ 4) => zcmp (isZ_of (x := y) (k := 2 ^ 4) hy) (isZ_of (x := -1) (k := 2 ^ 4) (by have : zlen (-1) ≤ 1 := zlen_small (by decide); omega)) (by omega)
      rcases c6 with ⟨g6, y1, y2⟩ | ⟨Q, g6, hy⟩
      · rw [g6] at e6
        by_cases n1 : n = 1
        · obtain ⟨y, hy⟩ := List.length_eq_one_iff.1 (hn.symm.trans n1)
          have yl : zlen y ≤ 2 ^ 4 := by have := gl 0; rw [hy] at this; simpa using this
          have c1 := cm1 y yl
          have c2 := cm2 y yl
          have k1 : ¬ (y - 1).sign = 0 := by
            rw [Int.sign_eq_zero_iff_zero]; intro h
            exact y1 (by rw [hy, show y = 1 by omega])
          have k2 : ¬ (y + 1).sign = 0 := by
            rw [Int.sign_eq_zero_iff_zero]; intro h
            exact y2 (by rw [hy, show y = -1 by omega])
          rw [show y - -1 = y + 1 by omega] at c2
          have k1B : ((y - 1).sign == 0) = false := by simpa using k1
          have k2B : ((y + 1).sign == 0) = false := by simpa using k2
          subst n1
          rw [hy, show PZ [y] = [.agg [.b (zn y), .sl none (uL (zl y))]] from rfl] at e1 nb
          rcases c4 with g4 | ⟨q, g4, lq, eq⟩
          · rw [g4] at e4
            refine spec_at Try.func5 ok_law10_ZpolyExact [] rfl (by simp) ?_
            unfold sc_law10_ZpolyExact
            refine WS_seq (WS_reg [] ?_); simp [k1, k2, k1B, k2B]
            refine WS_seq (WS_reg [] ?_); simp [k1, k2, k1B, k2B]
            refine callK aw ?_; simp [k1, k2, k1B, k2B]
            refine WS_seq (WS_seq (WS_reg [] ?_)); simp [k1, k2, k1B, k2B]
            refine callK sm ?_; simp [k1, k2, k1B, k2B]
            refine WS_cond (t := false) (by simp [k1, k2, k1B, k2B]) (fun h => by cases h) (fun _ => ?_)
            refine WS_skip ?_; simp [k1, k2, k1B, k2B]
            refine WS_seq (WS_reg [] ?_); simp [k1, k2, k1B, k2B]
            refine callK e1 ?_; simp [k1, k2, k1B, k2B]
            refine WS_seq (WS_reg [] ?_); simp [k1, k2, k1B, k2B]
            refine callK e2 ?_; simp [k1, k2, k1B, k2B]
            refine callK e3 ?_; simp [k1, k2, k1B, k2B]
            refine WS_seq (WS_reg [] ?_); simp [k1, k2, k1B, k2B]
            refine callK e4 ?_; simp [k1, k2, k1B, k2B]
            refine WS_seq (WS_seq (WS_reg [] ?_)); simp [k1, k2, k1B, k2B]
            refine WS_cond (t := false) (by simp [k1, k2, k1B, k2B]) (fun h => by cases h) (fun _ => ?_)
            refine WS_skip ?_; simp [k1, k2, k1B, k2B]
            refine WS_seq (WS_reg [] ?_); simp [k1, k2, k1B, k2B]
            refine callK e2 ?_; simp [k1, k2, k1B, k2B]
            refine callK o1 ?_; simp [k1, k2, k1B, k2B]
            refine callK e5 ?_; simp [k1, k2, k1B, k2B]
            refine callK e6 ?_; simp [k1, k2, k1B, k2B]
            refine WS_seq (WS_regD [] ?_); simp [k1, k2, k1B, k2B]
            refine callD u1 rfl ?_; simp [k1, k2, k1B, k2B]
            refine callD c1 rfl ?_; simp [k1, k2, k1B, k2B]
            refine callD u2 rfl ?_; simp [k1, k2, k1B, k2B]
            refine callD c2 rfl ?_; simp [k1, k2, k1B, k2B]
            refine ⟨rfl, ?_⟩
            refine WS_seq (WS_reg [] ?_); simp [k1, k2, k1B, k2B]
            refine callK f1 ?_; simp [k1, k2, k1B, k2B]
            refine callK s1 ?_; simp [k1, k2, k1B, k2B]
            refine WS_ret ?_; simp [k1, k2, k1B, k2B]
          · rw [g4] at e4
            have m1 := ymul lq.rd (rb.mono (by omega)) (by omega)
            rw [eq, ← w3] at m1
            refine spec_at Try.func5 ok_law10_ZpolyExact [] rfl (by simp) ?_
            unfold sc_law10_ZpolyExact
            refine WS_seq (WS_reg [] ?_); simp [k1, k2, k1B, k2B]
            refine WS_seq (WS_reg [] ?_); simp [k1, k2, k1B, k2B]
            refine callK aw ?_; simp [k1, k2, k1B, k2B]
            refine WS_seq (WS_seq (WS_reg [] ?_)); simp [k1, k2, k1B, k2B]
            refine callK sm ?_; simp [k1, k2, k1B, k2B]
            refine WS_cond (t := false) (by simp [k1, k2, k1B, k2B]) (fun h => by cases h) (fun _ => ?_)
            refine WS_skip ?_; simp [k1, k2, k1B, k2B]
            refine WS_seq (WS_reg [] ?_); simp [k1, k2, k1B, k2B]
            refine callK e1 ?_; simp [k1, k2, k1B, k2B]
            refine WS_seq (WS_reg [] ?_); simp [k1, k2, k1B, k2B]
            refine callK e2 ?_; simp [k1, k2, k1B, k2B]
            refine callK e3 ?_; simp [k1, k2, k1B, k2B]
            refine WS_seq (WS_reg [] ?_); simp [k1, k2, k1B, k2B]
            refine callK e4 ?_; simp [k1, k2, k1B, k2B]
            refine WS_seq (WS_seq (WS_reg [] ?_)); simp [k1, k2, k1B, k2B]
            refine WS_cond (t := false) (by simp [k1, k2, k1B, k2B]) (fun h => by cases h) (fun _ => ?_)
            refine WS_skip ?_; simp [k1, k2, k1B, k2B]
            refine WS_seq (WS_reg [] ?_); simp [k1, k2, k1B, k2B]
            refine callK e2 ?_; simp [k1, k2, k1B, k2B]
            refine callK o1 ?_; simp [k1, k2, k1B, k2B]
            refine callK e5 ?_; simp [k1, k2, k1B, k2B]
            refine callK e6 ?_; simp [k1, k2, k1B, k2B]
            refine WS_seq (WS_regD [] ?_); simp [k1, k2, k1B, k2B]
            refine callD u1 rfl ?_; simp [k1, k2, k1B, k2B]
            refine callD c1 rfl ?_; simp [k1, k2, k1B, k2B]
            refine callD u2 rfl ?_; simp [k1, k2, k1B, k2B]
            refine callD c2 rfl ?_; simp [k1, k2, k1B, k2B]
            refine ⟨rfl, ?_⟩
            refine WS_seq (WS_reg [] ?_); simp [k1, k2, k1B, k2B]
            refine callK f1 ?_; simp [k1, k2, k1B, k2B]
            refine callK s1 ?_; simp [k1, k2, k1B, k2B]
            refine callK m1 ?_; simp [k1, k2, k1B, k2B]
            refine callK f1 ?_; simp [k1, k2, k1B, k2B]
            refine callK s1 ?_; simp [k1, k2, k1B, k2B]
            refine WS_ret ?_; simp [k1, k2, k1B, k2B]
        · have n1B : ((n : Int) == 1) = false := by simp; omega
          have n1I : ¬ (n : Int) = 1 := by omega
          obtain ⟨W2, w2⟩ : ∃ W, W = PZ (tr b) := ⟨_, rfl⟩
          rw [← w2] at nb e1
          rcases c4 with g4 | ⟨q, g4, lq, eq⟩
          · rw [g4] at e4
            refine spec_at Try.func5 ok_law10_ZpolyExact [] rfl (by simp) ?_
            unfold sc_law10_ZpolyExact
            refine WS_seq (WS_reg [] ?_); simp [nb, n1, n1B, n1I, hpB, hpN]
            refine WS_seq (WS_reg [] ?_); simp [nb, n1, n1B, n1I, hpB, hpN]
            refine callK aw ?_; simp [nb, n1, n1B, n1I, hpB, hpN]
            refine WS_seq (WS_seq (WS_reg [] ?_)); simp [nb, n1, n1B, n1I, hpB, hpN]
            refine callK sm ?_; simp [nb, n1, n1B, n1I, hpB, hpN]
            refine WS_cond (t := false) (by simp [nb, n1, n1B, n1I, hpB, hpN]) (fun h => by cases h) (fun _ => ?_)
            refine WS_skip ?_; simp [nb, n1, n1B, n1I, hpB, hpN]
            refine WS_seq (WS_reg [] ?_); simp [nb, n1, n1B, n1I, hpB, hpN]
            refine callK e1 ?_; simp [nb, n1, n1B, n1I, hpB, hpN]
            refine WS_seq (WS_reg [] ?_); simp [nb, n1, n1B, n1I, hpB, hpN]
            refine callK e2 ?_; simp [nb, n1, n1B, n1I, hpB, hpN]
            refine callK e3 ?_; simp [nb, n1, n1B, n1I, hpB, hpN]
            refine WS_seq (WS_reg [] ?_); simp [nb, n1, n1B, n1I, hpB, hpN]
            refine callK e4 ?_; simp [nb, n1, n1B, n1I, hpB, hpN]
            refine WS_seq (WS_seq (WS_reg [] ?_)); simp [nb, n1, n1B, n1I, hpB, hpN]
            refine WS_cond (t := false) (by simp [nb, n1, n1B, n1I, hpB, hpN]) (fun h => by cases h) (fun _ => ?_)
            refine WS_skip ?_; simp [nb, n1, n1B, n1I, hpB, hpN]
            refine WS_seq (WS_reg [] ?_); simp [nb, n1, n1B, n1I, hpB, hpN]
            refine callK e2 ?_; simp [nb, n1, n1B, n1I, hpB, hpN]
            refine callK o1 ?_; simp [nb, n1, n1B, n1I, hpB, hpN]
            refine callK e5 ?_; simp [nb, n1, n1B, n1I, hpB, hpN]
            refine callK e6 ?_; simp [nb, n1, n1B, n1I, hpB, hpN]
            refine WS_seq (WS_regD [] ?_); simp [nb, n1, n1B, n1I, hpB, hpN]
            refine ⟨rfl, ?_⟩
            refine WS_seq (WS_reg [] ?_); simp [nb, n1, n1B, n1I, hpB, hpN]
            refine callK f1 ?_; simp [nb, n1, n1B, n1I, hpB, hpN]
            refine callK s1 ?_; simp [nb, n1, n1B, n1I, hpB, hpN]
            refine WS_ret ?_; simp [nb, n1, n1B, n1I, hpB, hpN]
          · rw [g4] at e4
            have m1 := ymul lq.rd (rb.mono (by omega)) (by omega)
            rw [eq, ← w3] at m1
            refine spec_at Try.func5 ok_law10_ZpolyExact [] rfl (by simp) ?_
            unfold sc_law10_ZpolyExact
            refine WS_seq (WS_reg [] ?_); simp [nb, n1, n1B, n1I, hpB, hpN]
            refine WS_seq (WS_reg [] ?_); simp [nb, n1, n1B, n1I, hpB, hpN]
            refine callK aw ?_; simp [nb, n1, n1B, n1I, hpB, hpN]
            refine WS_seq (WS_seq (WS_reg [] ?_)); simp [nb, n1, n1B, n1I, hpB, hpN]
            refine callK sm ?_; simp [nb, n1, n1B, n1I, hpB, hpN]
            refine WS_cond (t := false) (by simp [nb, n1, n1B, n1I, hpB, hpN]) (fun h => by cases h) (fun _ => ?_)
            refine WS_skip ?_; simp [nb, n1, n1B, n1I, hpB, hpN]
            refine WS_seq (WS_reg [] ?_); simp [nb, n1, n1B, n1I, hpB, hpN]
            refine callK e1 ?_; simp [nb, n1, n1B, n1I, hpB, hpN]
            refine WS_seq (WS_reg [] ?_); simp [nb, n1, n1B, n1I, hpB, hpN]
            refine callK e2 ?_; simp [nb, n1, n1B, n1I, hpB, hpN]
            refine callK e3 ?_; simp [nb, n1, n1B, n1I, hpB, hpN]
            refine WS_seq (WS_reg [] ?_); simp [nb, n1, n1B, n1I, hpB, hpN]
            refine callK e4 ?_; simp [nb, n1, n1B, n1I, hpB, hpN]
            refine WS_seq (WS_seq (WS_reg [] ?_)); simp [nb, n1, n1B, n1I, hpB, hpN]
            refine WS_cond (t := false) (by simp [nb, n1, n1B, n1I, hpB, hpN]) (fun h => by cases h) (fun _ => ?_)
            refine WS_skip ?_; simp [nb, n1, n1B, n1I, hpB, hpN]
            refine WS_seq (WS_reg [] ?_); simp [nb, n1, n1B, n1I, hpB, hpN]
            refine callK e2 ?_; simp [nb, n1, n1B, n1I, hpB, hpN]
            refine callK o1 ?_; simp [nb, n1, n1B, n1I, hpB, hpN]
            refine callK e5 ?_; simp [nb, n1, n1B, n1I, hpB, hpN]
            refine callK e6 ?_; simp [nb, n1, n1B, n1I, hpB, hpN]
            refine WS_seq (WS_regD [] ?_); simp [nb, n1, n1B, n1I, hpB, hpN]
            refine ⟨rfl, ?_⟩
            refine WS_seq (WS_reg [] ?_); simp [nb, n1, n1B, n1I, hpB, hpN]
            refine callK f1 ?_; simp [nb, n1, n1B, n1I, hpB, hpN]
            refine callK s1 ?_; simp [nb, n1, n1B, n1I, hpB, hpN]
            refine callK m1 ?_; simp [nb, n1, n1B, n1I, hpB, hpN]
            refine callK f1 ?_; simp [nb, n1, n1B, n1I, hpB, hpN]
            refine callK s1 ?_; simp [nb, n1, n1B, n1I, hpB, hpN]
            refine WS_ret ?_; simp [nb, n1, n1B, n1I, hpB, hpN]
      · rw [g6] at e6
        rcases hy with hy | hy
        · have c1 := cm1 1 (by have := zlen_one; omega)
          rw [show ((1 : Int) - 1).sign = 0 by decide] at c1
          obtain rfl : n = 1 := by rw [hn, hy]; rfl
          rw [hy, show PZ [1] = [.agg [.b (zn 1), .sl none (uL (zl 1))]] from rfl] at e1 nb
          rcases c4 with g4 | ⟨q, g4, lq, eq⟩
          · rw [g4] at e4
            refine spec_at Try.func5 ok_law10_ZpolyExact [] rfl (by simp) ?_
            unfold sc_law10_ZpolyExact
            refine WS_seq (WS_reg [] ?_); simp
            refine WS_seq (WS_reg [] ?_); simp
            refine callK aw ?_; simp
            refine WS_seq (WS_seq (WS_reg [] ?_)); simp
            refine callK sm ?_; simp
            refine WS_cond (t := false) (by simp) (fun h => by cases h) (fun _ => ?_)
            refine WS_skip ?_; simp
            refine WS_seq (WS_reg [] ?_); simp
            refine callK e1 ?_; simp
            refine WS_seq (WS_reg [] ?_); simp
            refine callK e2 ?_; simp
            refine callK e3 ?_; simp
            refine WS_seq (WS_reg [] ?_); simp
            refine callK e4 ?_; simp
            refine WS_seq (WS_seq (WS_reg [] ?_)); simp
            refine WS_cond (t := false) (by simp) (fun h => by cases h) (fun _ => ?_)
            refine WS_skip ?_; simp
            refine WS_seq (WS_reg [] ?_); simp
            refine callK e2 ?_; simp
            refine callK o1 ?_; simp
            refine callK e5 ?_; simp
            refine callK e6 ?_; simp
            refine WS_seq (WS_regD [] ?_); simp
            refine callD u1 rfl ?_; simp
            refine callD c1 rfl ?_; simp
            refine ⟨rfl, ?_⟩
            refine WS_seq (WS_reg [] ?_); simp
            refine callK f1 ?_; simp
            refine callK s1 ?_; simp
            refine WS_ret ?_; simp
          · rw [g4] at e4
            have m1 := ymul lq.rd (rb.mono (by omega)) (by omega)
            rw [eq, ← w3] at m1
            refine spec_at Try.func5 ok_law10_ZpolyExact [] rfl (by simp) ?_
            unfold sc_law10_ZpolyExact
            refine WS_seq (WS_reg [] ?_); simp
            refine WS_seq (WS_reg [] ?_); simp
            refine callK aw ?_; simp
            refine WS_seq (WS_seq (WS_reg [] ?_)); simp
            refine callK sm ?_; simp
            refine WS_cond (t := false) (by simp) (fun h => by cases h) (fun _ => ?_)
            refine WS_skip ?_; simp
            refine WS_seq (WS_reg [] ?_); simp
            refine callK e1 ?_; simp
            refine WS_seq (WS_reg [] ?_); simp
            refine callK e2 ?_; simp
            refine callK e3 ?_; simp
            refine WS_seq (WS_reg [] ?_); simp
            refine callK e4 ?_; simp
            refine WS_seq (WS_seq (WS_reg [] ?_)); simp
            refine WS_cond (t := false) (by simp) (fun h => by cases h) (fun _ => ?_)
            refine WS_skip ?_; simp
            refine WS_seq (WS_reg [] ?_); simp
            refine callK e2 ?_; simp
            refine callK o1 ?_; simp
            refine callK e5 ?_; simp
            refine callK e6 ?_; simp
            refine WS_seq (WS_regD [] ?_); simp
            refine callD u1 rfl ?_; simp
            refine callD c1 rfl ?_; simp
            refine ⟨rfl, ?_⟩
            refine WS_seq (WS_reg [] ?_); simp
            refine callK f1 ?_; simp
            refine callK s1 ?_; simp
            refine callK m1 ?_; simp
            refine callK f1 ?_; simp
            refine callK s1 ?_; simp
            refine WS_ret ?_; simp
        · have c1 := cm1 (-1) (by have : zlen (-1) ≤ 1 := zlen_small (by decide); omega)
          have c2 := cm2 (-1) (by have : zlen (-1) ≤ 1 := zlen_small (by decide); omega)
          rw [show ((-1 : Int) - 1).sign = -1 by decide] at c1
          rw [show ((-1 : Int) - -1).sign = 0 by decide] at c2
          obtain rfl : n = 1 := by rw [hn, hy]; rfl
          rw [hy, show PZ [-1] = [.agg [.b (zn (-1)), .sl none (uL (zl (-1)))]] from rfl] at e1 nb
          rcases c4 with g4 | ⟨q, g4, lq, eq⟩
          · rw [g4] at e4
            refine spec_at Try.func5 ok_law10_ZpolyExact [] rfl (by simp) ?_
            unfold sc_law10_ZpolyExact
            refine WS_seq (WS_reg [] ?_); simp
            refine WS_seq (WS_reg [] ?_); simp
            refine callK aw ?_; simp
            refine WS_seq (WS_seq (WS_reg [] ?_)); simp
            refine callK sm ?_; simp
            refine WS_cond (t := false) (by simp) (fun h => by cases h) (fun _ => ?_)
            refine WS_skip ?_; simp
            refine WS_seq (WS_reg [] ?_); simp
            refine callK e1 ?_; simp
            refine WS_seq (WS_reg [] ?_); simp
            refine callK e2 ?_; simp
            refine callK e3 ?_; simp
            refine WS_seq (WS_reg [] ?_); simp
            refine callK e4 ?_; simp
            refine WS_seq (WS_seq (WS_reg [] ?_)); simp
            refine WS_cond (t := false) (by simp) (fun h => by cases h) (fun _ => ?_)
            refine WS_skip ?_; simp
            refine WS_seq (WS_reg [] ?_); simp
            refine callK e2 ?_; simp
            refine callK o1 ?_; simp
            refine callK e5 ?_; simp
            refine callK e6 ?_; simp
            refine WS_seq (WS_regD [] ?_); simp
            refine callD u1 rfl ?_; simp
            refine callD c1 rfl ?_; simp
            refine callD u2 rfl ?_; simp
            refine callD c2 rfl ?_; simp
            refine ⟨rfl, ?_⟩
            refine WS_seq (WS_reg [] ?_); simp
            refine callK f1 ?_; simp
            refine callK s1 ?_; simp
            refine WS_ret ?_; simp
          · rw [g4] at e4
            have m1 := ymul lq.rd (rb.mono (by omega)) (by omega)
            rw [eq, ← w3] at m1
            refine spec_at Try.func5 ok_law10_ZpolyExact [] rfl (by simp) ?_
            unfold sc_law10_ZpolyExact
            refine WS_seq (WS_reg [] ?_); simp
            refine WS_seq (WS_reg [] ?_); simp
            refine callK aw ?_; simp
            refine WS_seq (WS_seq (WS_reg [] ?_)); simp
            refine callK sm ?_; simp
            refine WS_cond (t := false) (by simp) (fun h => by cases h) (fun _ => ?_)
            refine WS_skip ?_; simp
            refine WS_seq (WS_reg [] ?_); simp
            refine callK e1 ?_; simp
            refine WS_seq (WS_reg [] ?_); simp
            refine callK e2 ?_; simp
            refine callK e3 ?_; simp
            refine WS_seq (WS_reg [] ?_); simp
            refine callK e4 ?_; simp
            refine WS_seq (WS_seq (WS_reg [] ?_)); simp
            refine WS_cond (t := false) (by simp) (fun h => by cases h) (fun _ => ?_)
            refine WS_skip ?_; simp
            refine WS_seq (WS_reg [] ?_); simp
            refine callK e2 ?_; simp
            refine callK o1 ?_; simp
            refine callK e5 ?_; simp
            refine callK e6 ?_; simp
            refine WS_seq (WS_regD [] ?_); simp
            refine callD u1 rfl ?_; simp
            refine callD c1 rfl ?_; simp
            refine callD u2 rfl ?_; simp
            refine callD c2 rfl ?_; simp
            refine ⟨rfl, ?_⟩
            refine WS_seq (WS_reg [] ?_); simp
            refine callK f1 ?_; simp
            refine callK s1 ?_; simp
            refine callK m1 ?_; simp
            refine callK f1 ?_; simp
            refine callK s1 ?_; simp
            refine WS_ret ?_; simp
  · have hs' : smB 16 4 [M1, M2] = false := by simpa using hs
    rw [hs'] at sm
    refine spec_at Try.func5 ok_law10_ZpolyExact [] rfl (by simp) ?_
    unfold sc_law10_ZpolyExact
    refine WS_seq (WS_reg [] ?_); simp
    refine WS_seq (WS_reg [] ?_); simp
    refine callK aw ?_; simp
    refine WS_seq (WS_seq (WS_reg [] ?_)); simp
    refine callK sm ?_; simp
    refine WS_cond (t := true) (by simp) (fun _ => ?_) (fun h => by cases h)
    refine WS_seq (WS_reg [] ?_); simp
    refine WS_ret ?_; simp
end Go.Vw
namespace Go.Vw
open Go.Proofs Go.Py

attribute [local simp] RunL_cons RunL_nil AOp_none AOp_some acK_v acK_call agK_tt agK_ff agK_tf agK_ft agK_tup agK_i aop aun St.ev St.heap St.put thenQ blockQ scopeQ upd_apply S0 argSlot lowV V.cells V.isAgg V.fits V.part partOk plains St.ret retSV svOf svsOf retQ retP retAll retOne uL_length uL_get? uL_get St.elems retH ownIdx ownAt
attribute [local simp] RunD_none RunD_some RunD_nil RunE_any acD_v acD_call agD_tt agD_ff agD_tf agD_ft agD_tup entsOf svref SO.opds SO.writes SO.makes callEnt pureSV pureOf RV.isOwn
attribute [local simp] abin_add abin_sub abin_mul abin_quo abin_rem abin_eql abin_neq abin_lss abin_leq abin_gtr abin_geq
attribute [local simp] uL_snoc uL_set uL_take uL_drop uL_append uL_replicate uL_nil
attribute [local simp] acK_callG acD_callG St.giv gsSV gvSV retEnts ownEnts SO.still
attribute [local simp] S0G argSlotG givSV retQG retPG retAllG retOneG HObj.width V.scalar trimQ V.byte
attribute [local simp] zv V.fits fillOk fillV Z_eq
set_option maxHeartbeats 4000000 in
theorem law_ZpolyValues (M1 M2 : List (Bool × List Nat)) (n3 : Bool) (l3 : List Nat) (h1 : PW (2 ^ 24) M1) (h2 : PW (2 ^ 24) M2) (h3 : ZW (2 ^ 24) l3) :
    Spec Try.prog f_law10_ZpolyValues [.sl (some 2) (zL M1), .sl (some 2) (zL M2), zv n3 l3] (· = [.pure (.b true)]) := by
  have aw := awake10
  have sm := small10 12 3 (by omega) (by omega) [M1, M2, [(n3, l3)]] (by simp) (by
    intro M hM
    simp only [List.mem_cons, List.not_mem_nil, or_false] at hM
    rcases hM with rfl | rfl | rfl
    · have := h1.len; omega
    · have := h2.len; omega
    · simp)
  have eL : mL [M1, M2, [(n3, l3)]] = [.sl (some 2) (zL M1), .sl (some 2) (zL M2), .sl (some 2) [zv n3 l3]] := rfl
  rw [eL] at sm
  have zx := isZ_zv (n := n3) h3
  by_cases hs : smB 12 3 [M1, M2, [(n3, l3)]] = true
  · have ra := ld_rd (w := 3) (n := 12) (i := 4) (by omega) (by omega) h1.each (small_of hs (by simp))
    have rb := ld_rd (w := 3) (n := 12) (i := 4) (by omega) (by omega) h2.each (small_of hs (by simp))
    have hl := small_of hs (M := [(n3, l3)]) (by simp)
    simp [smR] at hl
    have zx : IsZ 3 (zv n3 l3) (zi n3 l3) := ⟨n3, l3, rfl, ⟨h3.dl, hl⟩, rfl⟩
    rw [hs] at sm
    obtain ⟨a, ea⟩ : ∃ a, a = piL M1 := ⟨_, rfl⟩
    obtain ⟨b, eb⟩ : ∃ a, a = piL M2 := ⟨_, rfl⟩
    obtain ⟨x, ex⟩ : ∃ a, a = zi n3 l3 := ⟨_, rfl⟩
    rw [← ea] at ra
    rw [← eb] at rb
    rw [← ex] at zx
    clear ea eb ex hs
    obtain ⟨A, eA⟩ : ∃ A, A = zL M1 := ⟨_, rfl⟩
    obtain ⟨B, eB⟩ : ∃ A, A = zL M2 := ⟨_, rfl⟩
    rw [← eA] at ra sm ⊢
    rw [← eB] at rb sm ⊢
    clear eA eB eL h1 h2 h3 M1 M2 hl
    have la := ra.ld
    have lb := rb.ld
    have zxl := zx.zlen
    have al := ra.len
    have bl := rb.len
    have lla := la.len
    have llb := lb.len
    have e1 := own_plain (pshift ra.isp zx (by omega) (by omega) (by omega) (by
      have h1 : A.length * (3 + 1) ≤ 2 ^ 4 * (3 + 1) := Nat.mul_le_mul_right _ al
      have h2 : A.length * (A.length * (3 + 1)) ≤ 2 ^ 4 * (2 ^ 4 * (3 + 1)) := Nat.mul_le_mul al h1
      omega))
    have ls : Ld 8 (tr (shL x a)) := by
      refine ⟨pl_tr ((pl_sh zxl la.pl).mono ?_), ?_⟩
      · have := Nat.mul_le_mul_right (3 + 4) lla
        omega
      · rw [sh_len]; have := tr_len a; omega
    have d1 := yderiv ra (by omega)
    have lda := ld_tr (ld_de la (by omega))
    have d2 := ymul lda.rd (rb.mono (by omega)) (by omega)
    have d3 := yderiv rb (by omega)
    have ldb := ld_tr (ld_de lb (by omega))
    have d4 := ymul (ra.mono (by omega)) ldb.rd (by omega)
    have lu := ld_tr (ld_mul lda (lb.mono (show 4 ≤ 5 by omega)))
    have lv := ld_tr (ld_mul (la.mono (show 4 ≤ 5 by omega)) ldb)
    have d5 := yadd lu.rd lv.rd (by omega)
    have lsum := ld_tr (ld_add lu lv)
    have hm : A.length * (3 + 1) ≤ 2 ^ 24 := by omega
    have v1 := peval ra.isp zx (by omega) (by omega) (by omega) (by omega)
    have v2 := peval rb.isp zx (by omega) (by omega) (by omega) (by omega)
    have za := evl_len zxl la.pl
    have zb := evl_len zxl lb.pl
    have zal : zlen (evL x a) ≤ 2 ^ 7 := by omega
    have zbl : zlen (evL x b) ≤ 2 ^ 7 := by omega
    have f1 := yadd ra rb (by omega)
    have lab := ld_tr (ld_add la lb)
    have labr := lab.rd
    have lbl := labr.len
    have f2 := peval labr.isp zx (by omega) (by omega) (by omega) (by omega)
    rw [evL_eqp x (cf_tr (addL a b)), evL_addL] at f2
    have f3 := zadd (isZ_of zal) (isZ_of zbl) (by omega)
    have pz := zlen_add (evL x a) (evL x b)
    have s1 := rsame2 (x := evL x a + evL x b) (k := 2 ^ 8) (by omega) (by omega)
    have g1 := ymul ra rb (by omega)
    have lmm := ld_tr (ld_mul la lb)
    have lmr := lmm.rd
    have lml := lmr.len
    have g2 := peval lmr.isp zx (by omega) (by omega) (by omega) (by omega)
    rw [evL_eqp x (cf_tr (mulL a b)), evL_mulL] at g2
    have g3 := zmul (isZ_of zal) (isZ_of zbl) (by omega)
    have qz := zlen_mul (evL x a) (evL x b)
    have s2 := rsame2 (x := evL x a * evL x b) (k := 2 ^ 8) (by omega) (by omega)
    have k1 := zneg zx (by omega)
    have lsr := ls.rd
    have lsl : (PZ (tr (shL x a))).length ≤ 2 ^ 4 := by rw [PZ_length, sh_len]; have := tr_len a; omega
    have k2 := own_plain (pshift lsr.isp (isZ_of (x := -x) (k := 3) (by rw [zlen_neg]; exact zxl)) (by omega) (by omega) (by omega) (by
      have h1 : (PZ (tr (shL x a))).length * (3 + 1) ≤ 2 ^ 4 * (3 + 1) := Nat.mul_le_mul_right _ lsl
      have h2 : (PZ (tr (shL x a))).length * ((PZ (tr (shL x a))).length * (3 + 1)) ≤ 2 ^ 4 * (2 ^ 4 * (3 + 1)) := Nat.mul_le_mul lsl h1
      omega))
    rw [tr_of_eqp ((shL_eqp (-x) (cf_tr (shL x a))).trans (shL_back x a))] at k2
    have k3 := ynorm ra (by omega)
    have s3 := ysame (ld_tr la) (by omega)
    have o0 := zof 0 (by omega) (by omega)
    have m1 := peval lsr.isp (isZ_of (x := 0) (k := 0) (by rw [zlen_zero]; omega)) (by omega) (by omega) (by omega) (by omega)
    rw [evL_eqp 0 (cf_tr (shL x a)), evL_shL, Int.zero_add] at m1
    have s4 := rsame2 zal (by omega)
    have p1 := yderiv lmm.rd (by omega)
    rw [tr_of_eqp ((deL_eqp (cf_tr (mulL a b))).trans ((deL_mulL a b).trans (eqp_addL ((eqp_mulL_left b (cf_tr (deL a)).symm).trans (cf_tr _).symm) ((eqp_mulL_right (cf_tr (deL b)).symm a).trans (cf_tr _).symm))))] at p1
    have s5 := ysame lsum (by omega)
    clear za zb pz qz
    obtain ⟨ea, hea⟩ : ∃ e, e = evL x a := ⟨_, rfl⟩
    obtain ⟨eb, heb⟩ : ∃ e, e = evL x b := ⟨_, rfl⟩
    rw [← hea] at v1 f2 f3 s1 g2 g3 s2 m1 s4
    rw [← heb] at v2 f2 f3 s1 g2 g3 s2
    obtain ⟨e3, he3⟩ : ∃ e, e = ea + eb := ⟨_, rfl⟩
    obtain ⟨e4, he4⟩ : ∃ e, e = ea * eb := ⟨_, rfl⟩
    rw [← he3] at f2 f3 s1
    rw [← he4] at g2 g3 s2
    obtain ⟨W1, w1⟩ : ∃ W, W = PZ (tr (shL x a)) := ⟨_, rfl⟩
    obtain ⟨W2, w2⟩ : ∃ W, W = PZ (tr (deL a)) := ⟨_, rfl⟩
    obtain ⟨W3, w3⟩ : ∃ W, W = PZ (tr (deL b)) := ⟨_, rfl⟩
    obtain ⟨W4, w4⟩ : ∃ W, W = PZ (tr (mulL (tr (deL a)) b)) := ⟨_, rfl⟩
    obtain ⟨W5, w5⟩ : ∃ W, W = PZ (tr (mulL a (tr (deL b)))) := ⟨_, rfl⟩
    obtain ⟨W6, w6⟩ : ∃ W, W = PZ (tr (addL (tr (mulL (tr (deL a)) b)) (tr (mulL a (tr (deL b)))))) := ⟨_, rfl⟩
    obtain ⟨W7, w7⟩ : ∃ W, W = PZ (tr (addL a b)) := ⟨_, rfl⟩
    obtain ⟨W8, w8⟩ : ∃ W, W = PZ (tr (mulL a b)) := ⟨_, rfl⟩
    obtain ⟨W9, w9⟩ : ∃ W, W = PZ (tr a) := ⟨_, rfl⟩
    rw [← w1] at e1 k2 m1
    rw [← w2] at d1 d2
    rw [← w3] at d3 d4
    rw [← w4] at d2 d5
    rw [← w5] at d4 d5
    rw [← w6] at d5 p1 s5
    rw [← w7] at f1 f2
    rw [← w8] at g1 g2 p1
    rw [← w9] at k2 k3 s3
    obtain ⟨y, hy⟩ : ∃ y, y = -x := ⟨_, rfl⟩
    rw [← hy] at k1 k2
    refine spec_at Try.func7 ok_law10_ZpolyValues [] rfl (by simp) ?_
    unfold sc_law10_ZpolyValues
    refine WS_seq (WS_reg [] ?_); simp
    refine WS_seq (WS_reg [] ?_); simp
    refine callK aw ?_; simp
    refine WS_seq (WS_seq (WS_reg [] ?_)); simp
    refine callK sm ?_; simp
    refine WS_cond (t := false) (by simp) (fun h => by cases h) (fun _ => ?_)
    refine WS_skip ?_; simp
    refine WS_seq (WS_reg [] ?_); simp
    refine callK e1 ?_; simp
    refine WS_seq (WS_reg [] ?_); simp
    refine callK d1 ?_; simp
    refine callK d2 ?_; simp
    refine callK d3 ?_; simp
    refine callK d4 ?_; simp
    refine callK d5 ?_; simp
    refine WS_seq (WS_reg [] ?_); simp
    refine callK v1 ?_; simp
    refine WS_seq (WS_reg [] ?_); simp
    refine callK v2 ?_; simp
    refine WS_seq (WS_regD [] ?_); simp
    refine callD f1 rfl ?_; simp
    refine callD f2 rfl ?_; simp
    refine callD f3 rfl ?_; simp
    refine callD s1 rfl ?_; simp
    refine callD g1 rfl ?_; simp
    refine callD g2 rfl ?_; simp
    refine callD g3 rfl ?_; simp
    refine callD s2 rfl ?_; simp
    refine callD k1 rfl ?_; simp
    refine callD k2 rfl ?_; simp
    refine callD k3 rfl ?_; simp
    refine callD s3 rfl ?_; simp
    refine callD o0 rfl ?_; simp
    refine callD m1 rfl ?_; simp
    refine callD s4 rfl ?_; simp
    refine callD g1 rfl ?_; simp
    refine callD p1 rfl ?_; simp
    refine callD s5 rfl ?_; simp
    refine ⟨rfl, ?_⟩
    refine WS_ret ?_; simp
  · have hs' : smB 12 3 [M1, M2, [(n3, l3)]] = false := by simpa using hs
    rw [hs'] at sm
    refine spec_at Try.func7 ok_law10_ZpolyValues [] rfl (by simp) ?_
    unfold sc_law10_ZpolyValues
    refine WS_seq (WS_reg [] ?_); simp
    refine WS_seq (WS_reg [] ?_); simp
    refine callK aw ?_; simp
    refine WS_seq (WS_seq (WS_reg [] ?_)); simp
    refine callK sm ?_; simp
    refine WS_cond (t := true) (by simp) (fun _ => ?_) (fun h => by cases h)
    refine WS_seq (WS_reg [] ?_); simp
    refine WS_ret ?_; simp
end Go.Vw
namespace Go.Vw
open Go.Proofs Go.Py

attribute [local simp] RunL_cons RunL_nil AOp_none AOp_some acK_v acK_call agK_tt agK_ff agK_tf agK_ft agK_tup agK_i aop aun St.ev St.heap St.put thenQ blockQ scopeQ upd_apply S0 argSlot lowV V.cells V.isAgg V.fits V.part partOk plains St.ret retSV svOf svsOf retQ retP retAll retOne uL_length uL_get? uL_get St.elems retH ownIdx ownAt
attribute [local simp] RunD_none RunD_some RunD_nil RunE_any acD_v acD_call agD_tt agD_ff agD_tf agD_ft agD_tup entsOf svref SO.opds SO.writes SO.makes callEnt pureSV pureOf RV.isOwn
attribute [local simp] abin_add abin_sub abin_mul abin_quo abin_rem abin_eql abin_neq abin_lss abin_leq abin_gtr abin_geq
attribute [local simp] uL_snoc uL_set uL_take uL_drop uL_append uL_replicate uL_nil
attribute [local simp] acK_callG acD_callG St.giv gsSV gvSV retEnts ownEnts SO.still
attribute [local simp] S0G argSlotG givSV retQG retPG retAllG retOneG HObj.width V.scalar trimQ V.byte
attribute [local simp] zv V.fits fillOk fillV Z_eq
set_option maxHeartbeats 4000000 in
theorem law_ZpolyRests (M1 M2 : List (Bool × List Nat)) (p : Int) (h1 : PW (2 ^ 24) M1) (h2 : PW (2 ^ 24) M2) (p1 : -9223372036854775808 ≤ p) (p2 : p ≤ 9223372036854775807) :
    Spec Try.prog f_law10_ZpolyRests [.sl (some 2) (zL M1), .sl (some 2) (zL M2), .i .i64 p] (· = [.pure (.b true)]) := by
  have aw := awake10
  have sm := small10 12 3 (by omega) (by omega) [M1, M2] (by simp) (by
    intro M hM
    simp only [List.mem_cons, List.not_mem_nil, or_false] at hM
    rcases hM with rfl | rfl
    · have := h1.len; omega
    · have := h2.len; omega)
  have eL : mL [M1, M2] = [.sl (some 2) (zL M1), .sl (some 2) (zL M2)] := rfl
  rw [eL] at sm
  have ia := isP_zL h1.each
  have ib := isP_zL h2.each
  have ha := h1.len
  have hb := h2.len
  have m1 := pmodq ia (by omega) (by rw [zL_length]; omega) p p1 p2
  have m2 := pmodq ib (by omega) (by rw [zL_length]; omega) p p1 p2
  by_cases hp : p < 1
  · rw [modQ, if_pos hp] at m1 m2
    have hp2 : ¬ 1 ≤ p := by omega
    refine spec_at Try.func8 ok_law10_ZpolyRests [] rfl (by simp) ?_
    unfold sc_law10_ZpolyRests
    refine WS_seq (WS_reg [] ?_); simp [hp, hp2]
    refine WS_seq (WS_reg [] ?_); simp [hp, hp2]
    refine callK aw ?_; simp [hp, hp2]
    refine WS_seq (WS_reg [] ?_); simp [hp, hp2]
    refine callK m1 ?_; simp [hp, hp2]
    refine WS_seq (WS_reg [] ?_); simp [hp, hp2]
    refine callK m2 ?_; simp [hp, hp2]
    refine WS_seq (WS_seq (WS_reg [] ?_)); simp [hp, hp2]
    refine WS_cond (t := true) (by simp [hp, hp2]) (fun _ => ?_) (fun h => by cases h)
    refine WS_seq (WS_reg [] ?_); simp [hp, hp2]
    refine WS_ret ?_; simp [hp, hp2]
  rw [modQ, if_neg hp] at m1 m2
  have hp1 : 1 ≤ p := by omega
  by_cases hg : 1000000 < p
  · obtain ⟨R1, r1⟩ : ∃ R, R = IL (rsL p (piL M1)) := ⟨_, rfl⟩
    obtain ⟨R2, r2⟩ : ∃ R, R = IL (rsL p (piL M2)) := ⟨_, rfl⟩
    rw [← r1] at m1
    rw [← r2] at m2
    refine spec_at Try.func8 ok_law10_ZpolyRests [] rfl (by simp) ?_
    unfold sc_law10_ZpolyRests
    refine WS_seq (WS_reg [] ?_); simp [hp, hp1, hg]
    refine WS_seq (WS_reg [] ?_); simp [hp, hp1, hg]
    refine callK aw ?_; simp [hp, hp1, hg]
    refine WS_seq (WS_reg [] ?_); simp [hp, hp1, hg]
    refine callK m1 ?_; simp [hp, hp1, hg]
    refine WS_seq (WS_reg [] ?_); simp [hp, hp1, hg]
    refine callK m2 ?_; simp [hp, hp1, hg]
    refine WS_seq (WS_seq (WS_reg [] ?_)); simp [hp, hp1, hg]
    refine WS_cond (t := true) (by simp [hp, hp1, hg]) (fun _ => ?_) (fun h => by cases h)
    refine WS_seq (WS_reg [] ?_); simp [hp, hp1, hg]
    refine WS_ret ?_; simp [hp, hp1, hg]
  by_cases hs : smB 12 3 [M1, M2] = true
  · have ra := ld_rd (w := 3) (n := 12) (i := 4) (by omega) (by omega) h1.each (small_of hs (by simp))
    have rb := ld_rd (w := 3) (n := 12) (i := 4) (by omega) (by omega) h2.each (small_of hs (by simp))
    rw [hs] at sm
    obtain ⟨a, ea⟩ : ∃ a, a = piL M1 := ⟨_, rfl⟩
    obtain ⟨b, eb⟩ : ∃ a, a = piL M2 := ⟨_, rfl⟩
    rw [← ea] at ra m1
    rw [← eb] at rb m2
    clear ea eb hs ia ib ha hb
    obtain ⟨A, eA⟩ : ∃ A, A = zL M1 := ⟨_, rfl⟩
    obtain ⟨B, eB⟩ : ∃ A, A = zL M2 := ⟨_, rfl⟩
    rw [← eA] at ra sm m1 ⊢
    rw [← eB] at rb sm m2 ⊢
    clear eA eB eL h1 h2 M1 M2
    have la := ra.ld
    have lb := rb.ld
    have lrs : ∀ l : List Int, l.length ≤ 2 ^ 4 → Ld 4 (rsL p l) := fun l hl => ⟨(pl_small (fun x hx => by have := rsL_mem hp1 x hx; omega)).mono (by omega), by have := rsL_len p l; omega⟩
    have lra := lrs a la.len
    have lrb := lrs b lb.len
    have f1 := ymul ra rb (by omega)
    have lab := ld_tr (ld_mul la lb)
    have f2 := ymod lab.rd (by omega) hp1 p2
    have g1 := ylift hp1 p2 (Nat.le_trans la.len (by omega : 2 ^ 4 ≤ 2 ^ 40))
    have g2 := ylift hp1 p2 (Nat.le_trans lb.len (by omega : 2 ^ 4 ≤ 2 ^ 40))
    have g3 := ymul lra.rd lrb.rd (by omega)
    have lrab := ld_tr (ld_mul lra lrb)
    have g4 := ymod lrab.rd (by omega) hp1 p2
    have e1 : rsL p (tr (mulL (rsL p a) (rsL p b))) = rsL p (tr (mulL a b)) := rsL_of (moE_trans (moE_eqp (cf_tr _)) (moE_trans (moE_mul (moE_rsL p a) (moE_rsL p b)) (moE_eqp (cf_tr _).symm)))
    rw [e1] at g4
    have k1 := yadd ra rb (by omega)
    have sab := ld_tr (ld_add la lb)
    have k2 := ymod sab.rd (by omega) hp1 p2
    have k3 := yadd lra.rd lrb.rd (by omega)
    have srab := ld_tr (ld_add lra lrb)
    have k4 := ymod srab.rd (by omega) hp1 p2
    have e2 : rsL p (tr (addL (rsL p a) (rsL p b))) = rsL p (tr (addL a b)) := rsL_of (moE_trans (moE_eqp (cf_tr _)) (moE_trans (moE_add (moE_rsL p a) (moE_rsL p b)) (moE_eqp (cf_tr _).symm)))
    rw [e2] at k4
    have s1 := same6 (rsL p (tr (mulL a b))) (by have := rsL_len p (tr (mulL a b)); have := lab.len; omega)
    have s2 := same6 (rsL p (tr (addL a b))) (by have := rsL_len p (tr (addL a b)); have := sab.len; omega)
    obtain ⟨W1, w1⟩ : ∃ W, W = PZ (tr (mulL a b)) := ⟨_, rfl⟩
    obtain ⟨W2, w2⟩ : ∃ W, W = PZ (tr (addL a b)) := ⟨_, rfl⟩
    obtain ⟨W3, w3⟩ : ∃ W, W = PZ (rsL p a) := ⟨_, rfl⟩
    obtain ⟨W4, w4⟩ : ∃ W, W = PZ (rsL p b) := ⟨_, rfl⟩
    obtain ⟨W5, w5⟩ : ∃ W, W = PZ (tr (mulL (rsL p a) (rsL p b))) := ⟨_, rfl⟩
    obtain ⟨W6, w6⟩ : ∃ W, W = PZ (tr (addL (rsL p a) (rsL p b))) := ⟨_, rfl⟩
    obtain ⟨R1, r1⟩ : ∃ R, R = IL (rsL p a) := ⟨_, rfl⟩
    obtain ⟨R2, r2⟩ : ∃ R, R = IL (rsL p b) := ⟨_, rfl⟩
    obtain ⟨R3, r3⟩ : ∃ R, R = IL (rsL p (tr (mulL a b))) := ⟨_, rfl⟩
    obtain ⟨R4, r4⟩ : ∃ R, R = IL (rsL p (tr (addL a b))) := ⟨_, rfl⟩
    rw [← w1] at f1 f2
    rw [← w2] at k1 k2
    rw [← w3] at g1 g3 k3
    rw [← w4] at g2 g3 k3
    rw [← w5] at g3 g4
    rw [← w6] at k3 k4
    rw [← r1] at m1 g1
    rw [← r2] at m2 g2
    rw [← r3] at f2 g4 s1
    rw [← r4] at k2 k4 s2
    refine spec_at Try.func8 ok_law10_ZpolyRests [] rfl (by simp) ?_
    unfold sc_law10_ZpolyRests
    refine WS_seq (WS_reg [] ?_); simp [hp, hp1, hg]
    refine WS_seq (WS_reg [] ?_); simp [hp, hp1, hg]
    refine callK aw ?_; simp [hp, hp1, hg]
    refine WS_seq (WS_reg [] ?_); simp [hp, hp1, hg]
    refine callK m1 ?_; simp [hp, hp1, hg]
    refine WS_seq (WS_reg [] ?_); simp [hp, hp1, hg]
    refine callK m2 ?_; simp [hp, hp1, hg]
    refine WS_seq (WS_seq (WS_reg [] ?_)); simp [hp, hp1, hg]
    refine callK sm ?_; simp [hp, hp1, hg]
    refine WS_cond (t := false) (by simp [hp, hp1, hg]) (fun h => by cases h) (fun _ => ?_)
    refine WS_skip ?_; simp [hp, hp1, hg]
    refine WS_seq (WS_reg [] ?_); simp [hp, hp1, hg]
    refine callK f1 ?_; simp [hp, hp1, hg]
    refine callK f2 ?_; simp [hp, hp1, hg]
    refine WS_seq (WS_reg [] ?_); simp [hp, hp1, hg]
    refine callK g1 ?_; simp [hp, hp1, hg]
    refine callK g2 ?_; simp [hp, hp1, hg]
    refine callK g3 ?_; simp [hp, hp1, hg]
    refine callK g4 ?_; simp [hp, hp1, hg]
    refine WS_seq (WS_reg [] ?_); simp [hp, hp1, hg]
    refine callK k1 ?_; simp [hp, hp1, hg]
    refine callK k2 ?_; simp [hp, hp1, hg]
    refine WS_seq (WS_reg [] ?_); simp [hp, hp1, hg]
    refine callK g1 ?_; simp [hp, hp1, hg]
    refine callK g2 ?_; simp [hp, hp1, hg]
    refine callK k3 ?_; simp [hp, hp1, hg]
    refine callK k4 ?_; simp [hp, hp1, hg]
    refine WS_seq (WS_reg [] ?_); simp [hp, hp1, hg]
    refine callK s1 ?_; simp [hp, hp1, hg]
    refine callK s2 ?_; simp [hp, hp1, hg]
    refine WS_ret ?_; simp [hp, hp1, hg]
  · have hs' : smB 12 3 [M1, M2] = false := by simpa using hs
    rw [hs'] at sm
    obtain ⟨R1, r1⟩ : ∃ R, R = IL (rsL p (piL M1)) := ⟨_, rfl⟩
    obtain ⟨R2, r2⟩ : ∃ R, R = IL (rsL p (piL M2)) := ⟨_, rfl⟩
    rw [← r1] at m1
    rw [← r2] at m2
    refine spec_at Try.func8 ok_law10_ZpolyRests [] rfl (by simp) ?_
    unfold sc_law10_ZpolyRests
    refine WS_seq (WS_reg [] ?_); simp [hp, hp1, hg]
    refine WS_seq (WS_reg [] ?_); simp [hp, hp1, hg]
    refine callK aw ?_; simp [hp, hp1, hg]
    refine WS_seq (WS_reg [] ?_); simp [hp, hp1, hg]
    refine callK m1 ?_; simp [hp, hp1, hg]
    refine WS_seq (WS_reg [] ?_); simp [hp, hp1, hg]
    refine callK m2 ?_; simp [hp, hp1, hg]
    refine WS_seq (WS_seq (WS_reg [] ?_)); simp [hp, hp1, hg]
    refine callK sm ?_; simp [hp, hp1, hg]
    refine WS_cond (t := true) (by simp [hp, hp1, hg]) (fun _ => ?_) (fun h => by cases h)
    refine WS_seq (WS_reg [] ?_); simp [hp, hp1, hg]
    refine WS_ret ?_; simp [hp, hp1, hg]
end Go.Vw
namespace Go.Vw
open Go.Proofs Go.Py

attribute [local simp] RunL_cons RunL_nil AOp_none AOp_some acK_v acK_call agK_tt agK_ff agK_tf agK_ft agK_tup agK_i aop aun St.ev St.heap St.put thenQ blockQ scopeQ upd_apply S0 argSlot lowV V.cells V.isAgg V.fits V.part partOk plains St.ret retSV svOf svsOf retQ retP retAll retOne uL_length uL_get? uL_get St.elems retH ownIdx ownAt
attribute [local simp] RunD_none RunD_some RunD_nil RunE_any acD_v acD_call agD_tt agD_ff agD_tf agD_ft agD_tup entsOf svref SO.opds SO.writes SO.makes callEnt pureSV pureOf RV.isOwn
attribute [local simp] abin_add abin_sub abin_mul abin_quo abin_rem abin_eql abin_neq abin_lss abin_leq abin_gtr abin_geq
attribute [local simp] uL_snoc uL_set uL_take uL_drop uL_append uL_replicate uL_nil
attribute [local simp] acK_callG acD_callG St.giv gsSV gvSV retEnts ownEnts SO.still
attribute [local simp] S0G argSlotG givSV retQG retPG retAllG retOneG HObj.width V.scalar trimQ V.byte
attribute [local simp] zv V.fits fillOk fillV Z_eq
set_option maxHeartbeats 4000000 in
theorem law_ZpolyDivides (M1 M2 : List (Bool × List Nat)) (h1 : PW (2 ^ 24) M1) (h2 : PW (2 ^ 24) M2) :
    Spec Try.prog f_law10_ZpolyDivides [.sl (some 2) (zL M1), .sl (some 2) (zL M2)] (· = [.pure (.b true)]) := by
  have aw := awake10
  have sm := small10 20 4 (by omega) (by omega) [M1, M2] (by simp) (by
    intro M hM
    simp only [List.mem_cons, List.not_mem_nil, or_false] at hM
    rcases hM with rfl | rfl
    · have := h1.len; omega
    · have := h2.len; omega)
  have eL : mL [M1, M2] = [.sl (some 2) (zL M1), .sl (some 2) (zL M2)] := rfl
  rw [eL] at sm
  by_cases hs : smB 20 4 [M1, M2] = true
  · have ra := ld_rd (w := 4) (n := 20) (i := 5) (by omega) (by omega) h1.each (small_of hs (by simp))
    have rb := ld_rd (w := 4) (n := 20) (i := 5) (by omega) (by omega) h2.each (small_of hs (by simp))
    rw [hs] at sm
    obtain ⟨a, ea⟩ : ∃ a, a = piL M1 := ⟨_, rfl⟩
    obtain ⟨b, eb⟩ : ∃ a, a = piL M2 := ⟨_, rfl⟩
    rw [← ea] at ra
    rw [← eb] at rb
    clear ea eb hs
    obtain ⟨A, eA⟩ : ∃ A, A = zL M1 := ⟨_, rfl⟩
    obtain ⟨B, eB⟩ : ∃ A, A = zL M2 := ⟨_, rfl⟩
    rw [← eA] at ra sm ⊢
    rw [← eB] at rb sm ⊢
    clear eA eB eL h1 h2 M1 M2
    have la := ra.ld
    have lb := rb.ld
    have al := ra.len
    have e1 := ydiv ra rb (by omega)
    have e2 := rdiv10 ra.isp rb.isp (by omega) (by omega) (by have := rb.len; omega) (by
      have := Nat.mul_le_mul_right (2 ^ 5 + 1) al
      omega)
    have key : ∃ (q : List Int) (e : Int), pdivQ a b = [.pure (.sl (some 2) (PZ q)), .pure (.i .i64 e)] ∧ Ld 12 q := by
      have l0 : Ld 12 [] := ⟨fun i => by rw [cf_nil, zlen_zero]; omega, by simp⟩
      by_cases h0 : tr b = []
      · exact ⟨[], 3, by rw [pdivQ_zero h0]; rfl, l0⟩
      · cases hq : pq a b with
        | none => exact ⟨[], 4, by rw [pdivQ_none h0 hq]; rfl, l0⟩
        | some q =>
          obtain ⟨h3, h4⟩ := pq_inv hq
          exact ⟨q, 0, by rw [pdivQ, if_neg h0, hq], ld_q la lb h0 h3 h4⟩
    obtain ⟨q, e, he, lq⟩ := key
    rw [he] at e1 e2
    have s1 := ysame lq (by omega)
    obtain ⟨Q, hQ⟩ : ∃ Q, Q = PZ q := ⟨_, rfl⟩
    rw [← hQ] at e1 e2 s1
    refine spec_at Try.func3 ok_law10_ZpolyDivides [] rfl (by simp) ?_
    unfold sc_law10_ZpolyDivides
    refine WS_seq (WS_reg [] ?_); simp
    refine WS_seq (WS_reg [] ?_); simp
    refine callK aw ?_; simp
    refine WS_seq (WS_seq (WS_reg [] ?_)); simp
    refine callK sm ?_; simp
    refine WS_cond (t := false) (by simp) (fun h => by cases h) (fun _ => ?_)
    refine WS_skip ?_; simp
    refine WS_seq (WS_reg [] ?_); simp
    refine callK e1 ?_; simp
    refine WS_seq (WS_reg [] ?_); simp
    refine callK e2 ?_; simp
    refine WS_seq (WS_reg [] ?_); simp
    refine callK s1 ?_; simp
    refine WS_ret ?_; simp
  · have hs' : smB 20 4 [M1, M2] = false := by simpa using hs
    rw [hs'] at sm
    refine spec_at Try.func3 ok_law10_ZpolyDivides [] rfl (by simp) ?_
    unfold sc_law10_ZpolyDivides
    refine WS_seq (WS_reg [] ?_); simp
    refine WS_seq (WS_reg [] ?_); simp
    refine callK aw ?_; simp
    refine WS_seq (WS_seq (WS_reg [] ?_)); simp
    refine callK sm ?_; simp
    refine WS_cond (t := true) (by simp) (fun _ => ?_) (fun h => by cases h)
    refine WS_seq (WS_reg [] ?_); simp
    refine WS_ret ?_; simp
end Go.Vw

