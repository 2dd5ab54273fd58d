/- awake and few of layer 2; the contracts of ZintAdds, ZintRing, ZintDivides. -/
import Derived.Test.YtphcdigmgbhjcaaF46
set_option linter.unusedVariables false
set_option linter.unusedSimpArgs false
namespace Go.Vw
open Go.Proofs

attribute [local simp] RunL_cons RunL_nil AOp_none AOp_some acK_v acK_call agK_tt agK_ff agK_tf agK_ft agK_tup agK_i aop aun St.ev St.heap St.put thenQ blockQ upd_apply S0 argSlot lowV V.cells V.isAgg V.fits V.part partOk plains St.ret retSV svOf svsOf retQ retP retAll retOne uL_length uL_get? uL_get St.elems retH ownIdx ownAt
attribute [local simp] RunD_none RunD_some RunD_nil RunE_any acD_v acD_call agD_tt agD_ff agD_tf agD_ft agD_tup entsOf svref SO.opds SO.writes SO.makes callEnt pureSV pureOf RV.isOwn
attribute [local simp] abin_add abin_sub abin_mul abin_quo abin_rem abin_eql abin_neq abin_lss abin_leq abin_gtr abin_geq
attribute [local simp] uL_snoc uL_set uL_take uL_drop uL_append uL_replicate uL_nil
attribute [local simp] acK_callG acD_callG St.giv gsSV gvSV retEnts ownEnts SO.still
attribute [local simp] S0G argSlotG givSV retQG retPG retAllG retOneG HObj.width V.scalar trimQ V.byte
attribute [local simp] zv V.fits fillOk fillV Z_eq
theorem awake2 : Spec Try.prog f_law02_awake [] (· = [.pure (.b true)]) := by
  have o7 := zof (-7) (by omega) (by omega)
  have o2 := zof 2 (by omega) (by omega)
  have dv := zdiv (k := 1) (isZ_Z (z := -7) (zlen_small (by decide))) (isZ_Z (z := 2) (zlen_small (by decide))) (by omega) (by decide)
  rw [show (-7 : Int) / 2 = -4 by decide, show (-7 : Int) % 2 = 1 by decide] at dv
  have sm := zsmall (k := 1) (isZ_Z (z := -4) (zlen_small (by decide))) (by omega)
  rw [smallR, if_pos (by omega)] at sm
  have tt := ztext (k := 1) (isZ_Z (z := 1) (zlen_small (by decide))) (by omega)
  rw [show zT 1 = [49] by rw [zT, if_neg (by omega)]; decide +kernel] at tt
  have sg := zsign (k := 1) (isZ_Z (z := -7) (zlen_small (by decide))) (by omega)
  rw [show (-7 : Int).sign = -1 by decide] at sg
  refine spec_at Try.func56 ok_law02_awake [] rfl (by simp) ?_
  unfold sc_law02_awake
  refine WS_seq ?_
  refine WS_reg [] ?_
  simp [tx, abin_seql]
  refine WS_seq ?_
  refine WS_reg [] ?_
  simp [tx, abin_seql]
  refine callK o7 ?_
  simp [tx, abin_seql]
  refine callK o2 ?_
  simp [tx, abin_seql]
  refine callK dv ?_
  simp [tx, abin_seql]
  refine WS_seq ?_
  refine WS_reg [] ?_
  simp [tx, abin_seql]
  refine callK sm ?_
  simp [tx, abin_seql]
  refine WS_seq ?_
  refine WS_reg [] ?_
  simp [tx, abin_seql]
  refine callK tt ?_
  simp [tx, abin_seql]
  refine callK o7 ?_
  simp [tx, abin_seql]
  refine callK sg ?_
  simp [tx, abin_seql]
  refine WS_ret ?_
  simp [tx, abin_seql]

def fewB (n : Nat) (L : List (Bool × List Nat)) : Bool := L.all fun p => decide (p.2.length ≤ n)

def zL (L : List (Bool × List Nat)) : List V := L.map fun p => zv p.1 p.2

theorem few2 (n : Nat) (hn : n ≤ 2 ^ 40) (L : List (Bool × List Nat)) (hL : L.length ≤ 2 ^ 40) : Spec Try.prog f_law02_few [.i .i64 (n : Int), .sl (some 2) (zL L)] (· = [.pure (.b (fewB n L))]) := by
  refine spec_at Try.func57 ok_law02_few [] rfl (by simp) ?_
  unfold sc_law02_few
  obtain ⟨m, hm⟩ : ∃ m, m = L.length := ⟨_, rfl⟩
  have hzl : (zL L).length = m := by simp [zL, hm]
  refine WS_seq (WS_reg [] ?_)
  simp
  refine WS_seq (WS_seq (WS_reg [] ?_))
  simp
  refine WS_block (WS_loop (fun S => ∃ i : Nat, i ≤ m ∧ S.σ 0 = .p (.i .i64 (n : Int)) ∧ S.σ 1 = .p (.sl (some 2) (zL L)) ∧ S.σ 5 = .p (.i .i64 (i : Int)) ∧ fewB n (L.take i) = true) (fun S => match S.σ 5 with | .p (.i _ k) => m - k.toNat | _ => 0) ⟨0, by omega, by simp, by simp, by simp, rfl⟩ ?_)
  rintro S ⟨i, hi, s0, s1, s5, hall⟩
  refine WS_seq (WS_seq (WS_reg [] ?_))
  simp [s1, s5, hzl]
  by_cases hlt : i < m
  · have hil : i < L.length := by omega
    have hiz : i < (zL L).length := by omega
    have hlt' : (i : Int) < (m : Int) := by omega
    have hget : (zL L)[i] = .agg [.b L[i].1, .sl none (uL L[i].2)] := by simp [zL]
    have htk : (L.take (i + 1)) = L.take i ++ [L[i]] := List.take_succ_eq_append_getElem hil
    obtain ⟨p, hp⟩ : ∃ p, p = L[i] := ⟨_, rfl⟩
    rw [← hp] at hget htk
    have w1 := i64_succ i (by omega)
    refine WS_cond (t := true) (by simp; omega) (fun _ => ?_) (fun h => by cases h)
    refine WS_skip ?_
    simp
    refine WS_seq (WS_block (WS_seq (WS_reg [] ?_)))
    simp [s0, s1, s5, hiz, hzl, hlt, hlt', hget]
    by_cases hg : (n : Int) < (p.2.length : Int)
    · have hno : fewB n L = false := by
        rw [fewB, List.all_eq_false]
        exact ⟨p, by rw [hp]; exact List.getElem_mem hil, by simp; omega⟩
      rw [hno]
      refine WS_cond (t := true) (by simp; omega) (fun _ => ?_) (fun h => by cases h)
      refine WS_seq (WS_reg [] ?_)
      simp
      refine WS_ret ?_
      simp
    · refine WS_cond (t := false) (by simp; omega) (fun h => by cases h) (fun _ => ?_)
      refine WS_skip ?_
      simp
      refine WS_reg [] ?_
      simp [s0, s1, s5, w1]
      refine ⟨⟨i + 1, by omega, rfl, ?_⟩, by omega⟩
      rw [htk, fewB, List.all_append]
      rw [fewB] at hall
      rw [hall]
      simp at hg ⊢
      omega
  · have him : i = m := by omega
    refine WS_cond (t := false) (by simp; omega) (fun h => by cases h) (fun _ => ?_)
    refine WS_exit ?_
    simp
    refine WS_seq (WS_reg [] ?_)
    simp
    refine WS_ret ?_
    rw [him, List.take_of_length_le (by omega)] at hall
    simp only [hall]
    simp
end Go.Vw
