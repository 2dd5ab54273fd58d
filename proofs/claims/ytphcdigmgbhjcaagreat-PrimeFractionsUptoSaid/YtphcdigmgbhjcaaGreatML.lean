/- The contracts of the laws of layer 3 and 4. -/
import Derived.Test.YtphcdigmgbhjcaaGreatMA
import Derived.Test.YtphcdigmgbhjcaaGreatMB
import Derived.Test.YtphcdigmgbhjcaaGreatMC
import Derived.Test.YtphcdigmgbhjcaaGreatMD
import Derived.Test.YtphcdigmgbhjcaaGreatME
import Derived.Test.YtphcdigmgbhjcaaGreatMF
import Derived.Test.YtphcdigmgbhjcaaGreatMG
set_option linter.unusedVariables false
set_option linter.unusedSimpArgs false
namespace Go.Vw
open Go.Proofs

attribute [local simp] RunL_cons RunL_nil AOp_none AOp_some acK_v acK_call agK_tt agK_ff agK_tf agK_ft agK_tup agK_i aop aun St.ev St.heap St.put thenQ blockQ scopeQ upd_apply S0 argSlot lowV V.cells V.isAgg V.fits V.part partOk plains St.ret retSV svOf svsOf retQ retP retAll retOne uL_length uL_get? uL_get St.elems retH ownIdx ownAt
attribute [local simp] RunD_none RunD_some RunD_nil RunE_any acD_v acD_call agD_tt agD_ff agD_tf agD_ft agD_tup entsOf svref SO.opds SO.writes SO.makes callEnt pureSV pureOf RV.isOwn
attribute [local simp] abin_add abin_sub abin_mul abin_quo abin_rem abin_eql abin_neq abin_lss abin_leq abin_gtr abin_geq
attribute [local simp] uL_snoc uL_set uL_take uL_drop uL_append uL_replicate uL_nil
attribute [local simp] acK_callG acD_callG St.giv gsSV gvSV retEnts ownEnts SO.still
attribute [local simp] S0G argSlotG givSV retQG retPG retAllG retOneG HObj.width V.scalar trimQ V.byte
attribute [local simp] zv V.fits fillOk fillV Z_eq rv Q_eq
end Go.Vw
namespace Go.Vw
open Go.Proofs

attribute [local simp] RunL_cons RunL_nil AOp_none AOp_some acK_v acK_call agK_tt agK_ff agK_tf agK_ft agK_tup agK_i aop aun St.ev St.heap St.put thenQ blockQ scopeQ upd_apply S0 argSlot lowV V.cells V.isAgg V.fits V.part partOk plains St.ret retSV svOf svsOf retQ retP retAll retOne uL_length uL_get? uL_get St.elems retH ownIdx ownAt
attribute [local simp] RunD_none RunD_some RunD_nil RunE_any acD_v acD_call agD_tt agD_ff agD_tf agD_ft agD_tup entsOf svref SO.opds SO.writes SO.makes callEnt pureSV pureOf RV.isOwn
attribute [local simp] abin_add abin_sub abin_mul abin_quo abin_rem abin_eql abin_neq abin_lss abin_leq abin_gtr abin_geq
attribute [local simp] uL_snoc uL_set uL_take uL_drop uL_append uL_replicate uL_nil
attribute [local simp] acK_callG acD_callG St.giv gsSV gvSV retEnts ownEnts SO.still
attribute [local simp] S0G argSlotG givSV retQG retPG retAllG retOneG HObj.width V.scalar trimQ V.byte
attribute [local simp] zv V.fits fillOk fillV Z_eq rv Q_eq
end Go.Vw
namespace Go.Vw
open Go.Proofs

attribute [local simp] RunL_cons RunL_nil AOp_none AOp_some acK_v acK_call agK_tt agK_ff agK_tf agK_ft agK_tup agK_i aop aun St.ev St.heap St.put thenQ blockQ scopeQ upd_apply S0 argSlot lowV V.cells V.isAgg V.fits V.part partOk plains St.ret retSV svOf svsOf retQ retP retAll retOne uL_length uL_get? uL_get St.elems retH ownIdx ownAt
attribute [local simp] RunD_none RunD_some RunD_nil RunE_any acD_v acD_call agD_tt agD_ff agD_tf agD_ft agD_tup entsOf svref SO.opds SO.writes SO.makes callEnt pureSV pureOf RV.isOwn
attribute [local simp] abin_add abin_sub abin_mul abin_quo abin_rem abin_eql abin_neq abin_lss abin_leq abin_gtr abin_geq
attribute [local simp] uL_snoc uL_set uL_take uL_drop uL_append uL_replicate uL_nil
attribute [local simp] acK_callG acD_callG St.giv gsSV gvSV retEnts ownEnts SO.still
attribute [local simp] S0G argSlotG givSV retQG retPG retAllG retOneG HObj.width V.scalar trimQ V.byte
attribute [local simp] zv V.fits fillOk fillV Z_eq rv Q_eq
end Go.Vw
namespace Go.Vw
open Go.Proofs

attribute [local simp] RunL_cons RunL_nil AOp_none AOp_some acK_v acK_call agK_tt agK_ff agK_tf agK_ft agK_tup agK_i aop aun St.ev St.heap St.put thenQ blockQ scopeQ upd_apply S0 argSlot lowV V.cells V.isAgg V.fits V.part partOk plains St.ret retSV svOf svsOf retQ retP retAll retOne uL_length uL_get? uL_get St.elems retH ownIdx ownAt
attribute [local simp] RunD_none RunD_some RunD_nil RunE_any acD_v acD_call agD_tt agD_ff agD_tf agD_ft agD_tup entsOf svref SO.opds SO.writes SO.makes callEnt pureSV pureOf RV.isOwn
attribute [local simp] abin_add abin_sub abin_mul abin_quo abin_rem abin_eql abin_neq abin_lss abin_leq abin_gtr abin_geq
attribute [local simp] uL_snoc uL_set uL_take uL_drop uL_append uL_replicate uL_nil
attribute [local simp] acK_callG acD_callG St.giv gsSV gvSV retEnts ownEnts SO.still
attribute [local simp] S0G argSlotG givSV retQG retPG retAllG retOneG HObj.width V.scalar trimQ V.byte
attribute [local simp] zv V.fits fillOk fillV Z_eq rv Q_eq
end Go.Vw
namespace Go.Vw
open Go.Proofs

attribute [local simp] RunL_cons RunL_nil AOp_none AOp_some acK_v acK_call agK_tt agK_ff agK_tf agK_ft agK_tup agK_i aop aun St.ev St.heap St.put thenQ blockQ scopeQ upd_apply S0 argSlot lowV V.cells V.isAgg V.fits V.part partOk plains St.ret retSV svOf svsOf retQ retP retAll retOne uL_length uL_get? uL_get St.elems retH ownIdx ownAt
attribute [local simp] RunD_none RunD_some RunD_nil RunE_any acD_v acD_call agD_tt agD_ff agD_tf agD_ft agD_tup entsOf svref SO.opds SO.writes SO.makes callEnt pureSV pureOf RV.isOwn
attribute [local simp] abin_add abin_sub abin_mul abin_quo abin_rem abin_eql abin_neq abin_lss abin_leq abin_gtr abin_geq
attribute [local simp] uL_snoc uL_set uL_take uL_drop uL_append uL_replicate uL_nil
attribute [local simp] acK_callG acD_callG St.giv gsSV gvSV retEnts ownEnts SO.still
attribute [local simp] S0G argSlotG givSV retQG retPG retAllG retOneG HObj.width V.scalar trimQ V.byte
attribute [local simp] zv V.fits fillOk fillV Z_eq rv Q_eq
theorem awake4 : Spec Tryz.prog f_law04_awake [] (· = [.pure (.b true)]) := by
  have nx := pnext (n := 7) (by omega) next_7
  have o2 := zof 2 (by omega) (by omega)
  have o3 := zof 3 (by omega) (by omega)
  have o5 := zof 5 (by omega) (by omega)
  have o34 := zof 34 (by omega) (by omega)
  have o101 := zof 101 (by omega) (by omega)
  have sm : ∀ x : Int, x.natAbs < 18446744073709551616 → IsZ 1 (Z x) x := fun x h => isZ_Z (zlen_small h)
  have cr := pcrt (sm 2 (by decide)) (sm 3 (by decide)) (sm 3 (by decide)) (sm 5 (by decide)) (by omega)
  rw [crt_8] at cr
  have fr := pfrac (sm 34 (by decide)) (sm 101 (by decide)) (by omega)
  rw [frac_34] at fr
  have t1 := ztext (sm 8 (by decide)) (by omega)
  rw [show zT 8 = [56] by rw [zT, if_neg (by omega)]; decide +kernel] at t1
  have t2 := qtext (isQ_Q (k := 2) (q := Rat.divInt 1 3) (divInt_len (k := 1) (zlen_small (by decide)) (zlen_small (by decide)))) (by omega)
  rw [show qT (Rat.divInt 1 3) = [49, 47, 51] by decide +kernel] at t2
  obtain ⟨q, hq⟩ : ∃ q, q = Rat.divInt 1 3 := ⟨_, rfl⟩
  rw [← hq] at fr t2
  obtain ⟨z, hz⟩ : ∃ z : Int, z = 8 := ⟨_, rfl⟩
  rw [← hz] at cr t1
  refine spec_at Tryz.func8 ok_law04_awake [] rfl (by simp) ?_
  unfold sc_law04_awake
  refine WS_seq (WS_reg [] ?_); simp [tx, abin_seql]
  refine WS_seq (WS_reg [] ?_); simp [tx, abin_seql]
  refine callK nx ?_; simp [tx, abin_seql]
  refine WS_seq (WS_reg [] ?_); simp [tx, abin_seql]
  refine callK o2 ?_; simp [tx, abin_seql]
  refine callK o3 ?_; simp [tx, abin_seql]
  refine callK o3 ?_; simp [tx, abin_seql]
  refine callK o5 ?_; simp [tx, abin_seql]
  refine callK cr ?_; simp [tx, abin_seql]
  refine WS_seq (WS_reg [] ?_); simp [tx, abin_seql]
  refine callK o34 ?_; simp [tx, abin_seql]
  refine callK o101 ?_; simp [tx, abin_seql]
  refine callK fr ?_; simp [tx, abin_seql]
  refine WS_seq (WS_reg [] ?_); simp [tx, abin_seql]
  refine callK t1 ?_; simp [tx, abin_seql]
  refine callK t2 ?_; simp [tx, abin_seql]
  refine WS_ret ?_; simp [tx, abin_seql]

theorem few4 (n : Nat) (hn : n ≤ 2 ^ 40) (L : List (Bool × List Nat)) (hL : L.length ≤ 2 ^ 40) : Spec Tryz.prog f_law04_few [.i .i64 (n : Int), .sl (some 2) (zL L)] (· = [.pure (.b (fewB n L))]) := by
  refine spec_at Tryz.func9 ok_law04_few [] rfl (by simp) ?_
  unfold sc_law04_few
  obtain ⟨m, hm⟩ : ∃ m, m = L.length := ⟨_, rfl⟩
  have hzl : (zL L).length = m := by simp [zL, hm]
  refine WS_seq (WS_reg [] ?_); simp
  refine WS_seq (WS_seq (WS_reg [] ?_)); simp
  refine WS_block (WS_loop (fun S => ∃ i : Nat, i ≤ m ∧ S.σ 0 = .p (.i .i64 (n : Int)) ∧ S.σ 1 = .p (.sl (some 2) (zL L)) ∧ S.σ 5 = .p (.i .i64 (i : Int)) ∧ fewB n (L.take i) = true) (fun S => match S.σ 5 with | .p (.i _ k) => m - k.toNat | _ => 0) ⟨0, by omega, by simp, by simp, by simp, rfl⟩ ?_)
  rintro S ⟨i, hi, s0, s1, s5, hall⟩
  refine WS_seq (WS_seq (WS_reg [] ?_)); simp [s1, s5, hzl]
  by_cases hlt : i < m
  · have hil : i < L.length := by omega
    have hiz : i < (zL L).length := by omega
    have hlt' : (i : Int) < (m : Int) := by omega
    have hget : (zL L)[i] = .agg [.b L[i].1, .sl none (uL L[i].2)] := by simp [zL]
    have htk : (L.take (i + 1)) = L.take i ++ [L[i]] := List.take_succ_eq_append_getElem hil
    obtain ⟨p, hp⟩ : ∃ p, p = L[i] := ⟨_, rfl⟩
    rw [← hp] at hget htk
    have w1 := i64_succ i (by omega)
    refine WS_cond (t := true) (by simp; omega) (fun _ => ?_) (fun h => by cases h)
    refine WS_skip ?_; simp
    refine WS_seq (WS_block (WS_seq (WS_reg [] ?_))); simp [s0, s1, s5, hiz, hzl, hlt, hlt', hget]
    by_cases hg : (n : Int) < (p.2.length : Int)
    · have hno : fewB n L = false := by
        rw [fewB, List.all_eq_false]
        exact ⟨p, by rw [hp]; exact List.getElem_mem hil, by simp; omega⟩
      rw [hno]
      refine WS_cond (t := true) (by simp; omega) (fun _ => ?_) (fun h => by cases h)
      refine WS_seq (WS_reg [] ?_); simp
      refine WS_ret ?_; simp
    · refine WS_cond (t := false) (by simp; omega) (fun h => by cases h) (fun _ => ?_)
      refine WS_skip ?_; simp
      refine WS_reg [] ?_; simp [s0, s1, s5, w1]
      refine ⟨⟨i + 1, by omega, rfl, ?_⟩, by omega⟩
      rw [htk, fewB, List.all_append]
      rw [fewB] at hall
      rw [hall]
      simp at hg ⊢
      omega
  · have him : i = m := by omega
    refine WS_cond (t := false) (by simp; omega) (fun h => by cases h) (fun _ => ?_)
    refine WS_exit ?_; simp
    refine WS_seq (WS_reg [] ?_); simp
    refine WS_ret ?_
    rw [him, List.take_of_length_le (by omega)] at hall
    simp only [hall]
    simp

theorem few4_two (n : Nat) (hn : n ≤ 2 ^ 40) (n1 n2 : Bool) (l1 l2 : List Nat) : Spec Tryz.prog f_law04_few [.i .i64 (n : Int), .sl (some 2) [zv n1 l1, zv n2 l2]] (· = [.pure (.b (fewB n [(n1, l1), (n2, l2)]))]) := few4 n hn [(n1, l1), (n2, l2)] (by simp)
theorem same4 (x : Int) (hl : zlen x ≤ 2 ^ 40) : Spec Tryz.prog f_law04_same [Z x, Z x] (· = [.pure (.b true)]) := by
  have sm := zsame x hl
  refine spec_at Tryz.func12 ok_law04_same [] rfl (by simp) ?_
  unfold sc_law04_same
  refine WS_seq (WS_reg [] ?_); simp
  refine WS_seq (WS_reg [] ?_); simp
  refine callK sm ?_; simp
  refine WS_ret ?_; simp
end Go.Vw
namespace Go.Vw
open Go.Proofs

attribute [local simp] RunL_cons RunL_nil AOp_none AOp_some acK_v acK_call agK_tt agK_ff agK_tf agK_ft agK_tup agK_i aop aun St.ev St.heap St.put thenQ blockQ scopeQ upd_apply S0 argSlot lowV V.cells V.isAgg V.fits V.part partOk plains St.ret retSV svOf svsOf retQ retP retAll retOne uL_length uL_get? uL_get St.elems retH ownIdx ownAt
attribute [local simp] RunD_none RunD_some RunD_nil RunE_any acD_v acD_call agD_tt agD_ff agD_tf agD_ft agD_tup entsOf svref SO.opds SO.writes SO.makes callEnt pureSV pureOf RV.isOwn
attribute [local simp] abin_add abin_sub abin_mul abin_quo abin_rem abin_eql abin_neq abin_lss abin_leq abin_gtr abin_geq
attribute [local simp] uL_snoc uL_set uL_take uL_drop uL_append uL_replicate uL_nil
attribute [local simp] acK_callG acD_callG St.giv gsSV gvSV retEnts ownEnts SO.still
attribute [local simp] S0G argSlotG givSV retQG retPG retAllG retOneG HObj.width V.scalar trimQ V.byte
attribute [local simp] zv V.fits fillOk fillV Z_eq
end Go.Vw
namespace Go.Vw
open Go.Proofs

attribute [local simp] RunL_cons RunL_nil AOp_none AOp_some acK_v acK_call agK_tt agK_ff agK_tf agK_ft agK_tup agK_i aop aun St.ev St.heap St.put thenQ blockQ scopeQ upd_apply S0 argSlot lowV V.cells V.isAgg V.fits V.part partOk plains St.ret retSV svOf svsOf retQ retP retAll retOne uL_length uL_get? uL_get St.elems retH ownIdx ownAt
attribute [local simp] RunD_none RunD_some RunD_nil RunE_any acD_v acD_call agD_tt agD_ff agD_tf agD_ft agD_tup entsOf svref SO.opds SO.writes SO.makes callEnt pureSV pureOf RV.isOwn
attribute [local simp] abin_add abin_sub abin_mul abin_quo abin_rem abin_eql abin_neq abin_lss abin_leq abin_gtr abin_geq
attribute [local simp] uL_snoc uL_set uL_take uL_drop uL_append uL_replicate uL_nil
attribute [local simp] acK_callG acD_callG St.giv gsSV gvSV retEnts ownEnts SO.still
attribute [local simp] S0G argSlotG givSV retQG retPG retAllG retOneG HObj.width V.scalar trimQ V.byte
attribute [local simp] zv V.fits fillOk fillV Z_eq rv Q_eq
end Go.Vw
namespace Go.Vw
open Go.Proofs

attribute [local simp] RunL_cons RunL_nil AOp_none AOp_some acK_v acK_call agK_tt agK_ff agK_tf agK_ft agK_tup agK_i aop aun St.ev St.heap St.put thenQ blockQ scopeQ upd_apply S0 argSlot lowV V.cells V.isAgg V.fits V.part partOk plains St.ret retSV svOf svsOf retQ retP retAll retOne uL_length uL_get? uL_get St.elems retH ownIdx ownAt
attribute [local simp] RunD_none RunD_some RunD_nil RunE_any acD_v acD_call agD_tt agD_ff agD_tf agD_ft agD_tup entsOf svref SO.opds SO.writes SO.makes callEnt pureSV pureOf RV.isOwn
attribute [local simp] abin_add abin_sub abin_mul abin_quo abin_rem abin_eql abin_neq abin_lss abin_leq abin_gtr abin_geq
attribute [local simp] uL_snoc uL_set uL_take uL_drop uL_append uL_replicate uL_nil
attribute [local simp] acK_callG acD_callG St.giv gsSV gvSV retEnts ownEnts SO.still
attribute [local simp] S0G argSlotG givSV retQG retPG retAllG retOneG HObj.width V.scalar trimQ V.byte
attribute [local simp] zv V.fits fillOk fillV Z_eq
attribute [local simp] rv Q_eq
end Go.Vw
namespace Go.Vw
open Go.Proofs

attribute [local simp] RunL_cons RunL_nil AOp_none AOp_some acK_v acK_call agK_tt agK_ff agK_tf agK_ft agK_tup agK_i aop aun St.ev St.heap St.put thenQ blockQ scopeQ upd_apply S0 argSlot lowV V.cells V.isAgg V.fits V.part partOk plains St.ret retSV svOf svsOf retQ retP retAll retOne uL_length uL_get? uL_get St.elems retH ownIdx ownAt
attribute [local simp] RunD_none RunD_some RunD_nil RunE_any acD_v acD_call agD_tt agD_ff agD_tf agD_ft agD_tup entsOf svref SO.opds SO.writes SO.makes callEnt pureSV pureOf RV.isOwn
attribute [local simp] abin_add abin_sub abin_mul abin_quo abin_rem abin_eql abin_neq abin_lss abin_leq abin_gtr abin_geq
attribute [local simp] uL_snoc uL_set uL_take uL_drop uL_append uL_replicate uL_nil
attribute [local simp] acK_callG acD_callG St.giv gsSV gvSV retEnts ownEnts SO.still
attribute [local simp] S0G argSlotG givSV retQG retPG retAllG retOneG HObj.width V.scalar trimQ V.byte
attribute [local simp] zv V.fits fillOk fillV Z_eq
theorem few4_four (n : Nat) (hn : n ≤ 2 ^ 40) (n1 n2 n3 n4 : Bool) (l1 l2 l3 l4 : List Nat) : Spec Tryz.prog f_law04_few [.i .i64 (n : Int), .sl (some 2) [zv n1 l1, zv n2 l2, zv n3 l3, zv n4 l4]] (· = [.pure (.b (fewB n [(n1, l1), (n2, l2), (n3, l3), (n4, l4)]))]) := few4 n hn [(n1, l1), (n2, l2), (n3, l3), (n4, l4)] (by simp)

set_option maxHeartbeats 1000000 in
theorem law_PrimeCrts (n1 n2 n3 n4 : Bool) (l1 l2 l3 l4 : List Nat) (h1 : ZW (2 ^ 24) l1) (h2 : ZW (2 ^ 24) l2) (h3 : ZW (2 ^ 24) l3) (h4 : ZW (2 ^ 24) l4) :
    Spec Tryz.prog f_law04_PrimeCrts [zv n1 l1, zv n2 l2, zv n3 l3, zv n4 l4] (· = [.pure (.b true)]) := by
  have fw : Spec Tryz.prog f_law04_few [.i .i64 5, .sl (some 2) [zv n1 l1, zv n2 l2, zv n3 l3, zv n4 l4]] (· = [.pure (.b (fewB 5 [(n1, l1), (n2, l2), (n3, l3), (n4, l4)]))]) := few4_four 5 (by omega) n1 n2 n3 n4 l1 l2 l3 l4
  have aw := awake4
  refine spec_at Tryz.func3 ok_law04_PrimeCrts [] rfl (by simp) ?_
  unfold sc_law04_PrimeCrts
  cases hf : fewB 5 [(n1, l1), (n2, l2), (n3, l3), (n4, l4)] with
  | false =>
    rw [hf] at fw
    refine WS_seq (WS_reg [] ?_); simp
    refine WS_seq (WS_reg [] ?_); simp
    refine callK aw ?_; simp
    refine WS_seq (WS_seq (WS_reg [] ?_)); simp
    refine callK fw ?_; simp
    refine WS_cond (t := true) (by simp) (fun _ => ?_) (fun h => by cases h)
    refine WS_seq (WS_reg [] ?_); simp
    refine WS_ret ?_; simp
  | true =>
    rw [hf] at fw
    obtain ⟨f1, f2, f3, f4⟩ := few_four hf
    have ia := isZ_zv (n := n1) (k := 5) ⟨h1.dl, f1⟩
    have im := isZ_zv (n := n2) (k := 5) ⟨h2.dl, f2⟩
    have ib := isZ_zv (n := n3) (k := 5) ⟨h3.dl, f3⟩
    have iN := isZ_zv (n := n4) (k := 5) ⟨h4.dl, f4⟩
    have c1 := pcrt ia im ib iN (by omega)
    have c2 := rcrt ia im ib iN (by omega)
    have qm := im.zlen
    have qn := iN.zlen
    obtain ⟨a, ha⟩ : ∃ x, x = zi n1 l1 := ⟨_, rfl⟩
    obtain ⟨m, hm⟩ : ∃ x, x = zi n2 l2 := ⟨_, rfl⟩
    obtain ⟨b, hb⟩ : ∃ x, x = zi n3 l3 := ⟨_, rfl⟩
    obtain ⟨n, hn⟩ : ∃ x, x = zi n4 l4 := ⟨_, rfl⟩
    rw [← ha, ← hm, ← hb, ← hn] at c1 c2
    rw [← hm] at qm
    rw [← hn] at qn
    by_cases h : m ≤ 0 ∨ n ≤ 0 ∨ (Int.gcd m n : Int) ≠ 1
    · rw [crtR, if_pos h] at c1 c2
      have s0 := same4 0 (by rw [zlen_zero]; omega)
      refine WS_seq (WS_reg [] ?_); simp
      refine WS_seq (WS_reg [] ?_); simp
      refine callK aw ?_; simp
      refine WS_seq (WS_seq (WS_reg [] ?_)); simp
      refine callK fw ?_; simp
      refine WS_cond (t := false) (by simp) (fun h => by cases h) (fun _ => ?_)
      refine WS_skip ?_; simp
      refine WS_seq (WS_reg [] ?_); simp
      refine callK c1 ?_; simp
      refine WS_seq (WS_reg [] ?_); simp
      refine callK c2 ?_; simp
      refine WS_seq (WS_reg [] ?_); simp
      refine callK s0 ?_; simp
      refine WS_ret ?_; simp
    · rw [crtR, if_neg h] at c1 c2
      have l6 := zlen_mul m n
      have mnp : 0 < m * n := Int.mul_pos (show 0 < m by omega) (show 0 < n by omega)
      have lx : zlen (crtZ a m b n) ≤ 10 := by
        rw [crtZ]
        exact Nat.le_trans (zlen_emod _ _ (by omega)) (by omega)
      have s0 := same4 (crtZ a m b n) (by omega)
      obtain ⟨x, hx⟩ : ∃ x, x = crtZ a m b n := ⟨_, rfl⟩
      rw [← hx] at c1 c2 s0
      refine WS_seq (WS_reg [] ?_); simp
      refine WS_seq (WS_reg [] ?_); simp
      refine callK aw ?_; simp
      refine WS_seq (WS_seq (WS_reg [] ?_)); simp
      refine callK fw ?_; simp
      refine WS_cond (t := false) (by simp) (fun h => by cases h) (fun _ => ?_)
      refine WS_skip ?_; simp
      refine WS_seq (WS_reg [] ?_); simp
      refine callK c1 ?_; simp
      refine WS_seq (WS_reg [] ?_); simp
      refine callK c2 ?_; simp
      refine WS_seq (WS_reg [] ?_); simp
      refine callK s0 ?_; simp
      refine WS_ret ?_; simp

set_option maxHeartbeats 1000000 in
theorem law_PrimeRests (n1 n2 : Bool) (l1 l2 : List Nat) (h1 : ZW (2 ^ 24) l1) (h2 : ZW (2 ^ 24) l2) (n : Int) (hn1 : -9223372036854775808 ≤ n) (hn2 : n ≤ 9223372036854775807) :
    Spec Tryz.prog f_law04_PrimeRests [zv n1 l1, zv n2 l2, .i .i64 n] (· = [.pure (.b true)]) := by
  have fw : Spec Tryz.prog f_law04_few [.i .i64 20, .sl (some 2) [zv n1 l1, zv n2 l2]] (· = [.pure (.b (fewB 20 [(n1, l1), (n2, l2)]))]) := few4_two 20 (by omega) n1 n2 l1 l2
  have aw := awake4
  refine spec_at Tryz.func6 ok_law04_PrimeRests [] rfl (by simp) ?_
  unfold sc_law04_PrimeRests
  cases hf : fewB 20 [(n1, l1), (n2, l2)] with
  | false =>
    rw [hf] at fw
    refine WS_seq (WS_reg [] ?_); simp
    refine WS_seq (WS_reg [] ?_); simp
    refine callK aw ?_; simp
    refine WS_seq (WS_seq (WS_reg [] ?_)); simp
    refine callK fw ?_; simp
    refine WS_cond (t := true) (by simp) (fun _ => ?_) (fun h => by cases h)
    refine WS_seq (WS_reg [] ?_); simp
    refine WS_ret ?_; simp
  | true =>
    rw [hf] at fw
    obtain ⟨f1, f2⟩ := few_two hf
    have ia := isZ_zv (n := n1) (k := 20) ⟨h1.dl, f1⟩
    have im := isZ_zv (n := n2) (k := 20) ⟨h2.dl, f2⟩
    have r1 := prest ia im (by omega)
    have r2 := rrest ia im (by omega)
    have u1 := pnear ia im (by omega)
    have u2 := rnear ia im (by omega)
    have m1 := pmod ia (by omega) n hn1 hn2
    have m2 := rmod ia (by omega) n hn1 hn2
    have qm := im.zlen
    obtain ⟨a, ha⟩ : ∃ x, x = zi n1 l1 := ⟨_, rfl⟩
    obtain ⟨m, hm⟩ : ∃ x, x = zi n2 l2 := ⟨_, rfl⟩
    rw [← ha, ← hm] at r1 r2 u1 u2
    rw [← ha] at m1 m2
    rw [← hm] at qm
    have mods : ∃ (c e : Int), modR a n = [.pure (.i .i64 c), .pure (.i .i64 e)] := by
      rw [modR]; split
      · exact ⟨_, _, rfl⟩
      · exact ⟨_, _, rfl⟩
    obtain ⟨c, e, hce⟩ := mods
    rw [hce] at m1 m2
    by_cases h : m ≤ 0
    · rw [restR, if_pos h] at r1 r2
      rw [nearR, if_pos h] at u1 u2
      have s0 := same4 0 (by rw [zlen_zero]; omega)
      refine WS_seq (WS_reg [] ?_); simp
      refine WS_seq (WS_reg [] ?_); simp
      refine callK aw ?_; simp
      refine WS_seq (WS_seq (WS_reg [] ?_)); simp
      refine callK fw ?_; simp
      refine WS_cond (t := false) (by simp) (fun h => by cases h) (fun _ => ?_)
      refine WS_skip ?_; simp
      refine WS_seq (WS_reg [] ?_); simp
      refine callK r1 ?_; simp
      refine WS_seq (WS_reg [] ?_); simp
      refine callK r2 ?_; simp
      refine WS_seq (WS_reg [] ?_); simp
      refine callK u1 ?_; simp
      refine WS_seq (WS_reg [] ?_); simp
      refine callK u2 ?_; simp
      refine WS_seq (WS_reg [] ?_); simp
      refine callK m1 ?_; simp
      refine WS_seq (WS_reg [] ?_); simp
      refine callK m2 ?_; simp
      refine WS_seq (WS_reg [] ?_); simp
      refine callK s0 ?_; simp
      refine callK s0 ?_; simp
      refine WS_ret ?_; simp
    · rw [restR, if_neg h] at r1 r2
      rw [nearR, if_neg h] at u1 u2
      have b1 := Int.emod_nonneg a (show m ≠ 0 by omega)
      have b2 := Int.emod_lt_of_pos a (show 0 < m by omega)
      obtain ⟨w1, w2⟩ := near_in (a := a) (m := m) (by omega)
      have s1 := same4 (a % m) (by have := zlen_le (x := a % m) (y := m) (by omega); omega)
      have s2 := same4 (nearZ a m) (by have := zlen_le (x := nearZ a m) (y := m) (by omega); omega)
      obtain ⟨x, hx⟩ : ∃ x, x = a % m := ⟨_, rfl⟩
      obtain ⟨y, hy⟩ : ∃ x, x = nearZ a m := ⟨_, rfl⟩
      rw [← hx] at r1 r2 s1
      rw [← hy] at u1 u2 s2
      refine WS_seq (WS_reg [] ?_); simp
      refine WS_seq (WS_reg [] ?_); simp
      refine callK aw ?_; simp
      refine WS_seq (WS_seq (WS_reg [] ?_)); simp
      refine callK fw ?_; simp
      refine WS_cond (t := false) (by simp) (fun h => by cases h) (fun _ => ?_)
      refine WS_skip ?_; simp
      refine WS_seq (WS_reg [] ?_); simp
      refine callK r1 ?_; simp
      refine WS_seq (WS_reg [] ?_); simp
      refine callK r2 ?_; simp
      refine WS_seq (WS_reg [] ?_); simp
      refine callK u1 ?_; simp
      refine WS_seq (WS_reg [] ?_); simp
      refine callK u2 ?_; simp
      refine WS_seq (WS_reg [] ?_); simp
      refine callK m1 ?_; simp
      refine WS_seq (WS_reg [] ?_); simp
      refine callK m2 ?_; simp
      refine WS_seq (WS_reg [] ?_); simp
      refine callK s1 ?_; simp
      refine callK s2 ?_; simp
      refine WS_ret ?_; simp

attribute [local simp] rv Q_eq
set_option maxHeartbeats 1000000 in
theorem law_PrimeFractions (n1 n2 : Bool) (l1 l2 : List Nat) (h1 : ZW (2 ^ 24) l1) (h2 : ZW (2 ^ 24) l2) :
    Spec Tryz.prog f_law04_PrimeFractions [zv n1 l1, zv n2 l2] (· = [.pure (.b true)]) := by
  have fw : Spec Tryz.prog f_law04_few [.i .i64 4, .sl (some 2) [zv n1 l1, zv n2 l2]] (· = [.pure (.b (fewB 4 [(n1, l1), (n2, l2)]))]) := few4_two 4 (by omega) n1 n2 l1 l2
  have aw := awake4
  refine spec_at Tryz.func4 ok_law04_PrimeFractions [] rfl (by simp) ?_
  unfold sc_law04_PrimeFractions
  cases hf : fewB 4 [(n1, l1), (n2, l2)] with
  | false =>
    rw [hf] at fw
    refine WS_seq (WS_reg [] ?_); simp
    refine WS_seq (WS_reg [] ?_); simp
    refine callK aw ?_; simp
    refine WS_seq (WS_seq (WS_reg [] ?_)); simp
    refine callK fw ?_; simp
    refine WS_cond (t := true) (by simp) (fun _ => ?_) (fun h => by cases h)
    refine WS_seq (WS_reg [] ?_); simp
    refine WS_ret ?_; simp
  | true =>
    rw [hf] at fw
    obtain ⟨f1, f2⟩ := few_two hf
    have ia := isZ_zv (n := n1) (k := 4) ⟨h1.dl, f1⟩
    have im := isZ_zv (n := n2) (k := 4) ⟨h2.dl, f2⟩
    have p1 := pfrac ia im (by omega)
    have p2 := rfrac ia im (by omega)
    have qm := im.zlen
    obtain ⟨a, ha⟩ : ∃ x, x = zi n1 l1 := ⟨_, rfl⟩
    obtain ⟨m, hm⟩ : ∃ x, x = zi n2 l2 := ⟨_, rfl⟩
    rw [← ha, ← hm] at p1 p2
    rw [← hm] at qm
    have s0 := qsame false [] [] (by simp) (by simp)
    by_cases h : m ≤ 0
    · rw [fracR, if_pos h] at p1 p2
      refine WS_seq (WS_reg [] ?_); simp
      refine WS_seq (WS_reg [] ?_); simp
      refine callK aw ?_; simp
      refine WS_seq (WS_seq (WS_reg [] ?_)); simp
      refine callK fw ?_; simp
      refine WS_cond (t := false) (by simp) (fun h => by cases h) (fun _ => ?_)
      refine WS_skip ?_; simp
      refine WS_seq (WS_reg [] ?_); simp
      refine callK p1 ?_; simp
      refine WS_seq (WS_reg [] ?_); simp
      refine callK p2 ?_; simp
      refine WS_seq (WS_reg [] ?_); simp
      refine callK s0 ?_; simp
      refine WS_ret ?_; simp
    · rcases fracR_of (a := a) (m := m) (by omega) with e | ⟨q, e, hk⟩
      · rw [e] at p1 p2
        refine WS_seq (WS_reg [] ?_); simp
        refine WS_seq (WS_reg [] ?_); simp
        refine callK aw ?_; simp
        refine WS_seq (WS_seq (WS_reg [] ?_)); simp
        refine callK fw ?_; simp
        refine WS_cond (t := false) (by simp) (fun h => by cases h) (fun _ => ?_)
        refine WS_skip ?_; simp
        refine WS_seq (WS_reg [] ?_); simp
        refine callK p1 ?_; simp
        refine WS_seq (WS_reg [] ?_); simp
        refine callK p2 ?_; simp
        refine WS_seq (WS_reg [] ?_); simp
        refine callK s0 ?_; simp
        refine WS_ret ?_; simp
      · rw [e] at p1 p2
        have ql := keeps_len hk qm
        have sa := qsame (zn q.num) (zl q.num) (qd q.den) (by have := ql.num; rw [zlen] at this; omega) (by rw [qd_len]; have := ql.den; omega)
        refine WS_seq (WS_reg [] ?_); simp
        refine WS_seq (WS_reg [] ?_); simp
        refine callK aw ?_; simp
        refine WS_seq (WS_seq (WS_reg [] ?_)); simp
        refine callK fw ?_; simp
        refine WS_cond (t := false) (by simp) (fun h => by cases h) (fun _ => ?_)
        refine WS_skip ?_; simp
        refine WS_seq (WS_reg [] ?_); simp
        refine callK p1 ?_; simp
        refine WS_seq (WS_reg [] ?_); simp
        refine callK p2 ?_; simp
        refine WS_seq (WS_reg [] ?_); simp
        refine callK sa ?_; simp
        refine WS_ret ?_; simp
end Go.Vw

