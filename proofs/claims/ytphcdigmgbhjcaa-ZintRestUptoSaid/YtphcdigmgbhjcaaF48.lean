/- The contracts of ZintAdds, ZintRing, ZintDivides, ZintRest. -/
import Derived.Test.YtphcdigmgbhjcaaF47
set_option linter.unusedVariables false
set_option linter.unusedSimpArgs false
namespace Go.Vw
open Go.Proofs

attribute [local simp] RunL_cons RunL_nil AOp_none AOp_some acK_v acK_call agK_tt agK_ff agK_tf agK_ft agK_tup agK_i aop aun St.ev St.heap St.put thenQ blockQ upd_apply S0 argSlot lowV V.cells V.isAgg V.fits V.part partOk plains St.ret retSV svOf svsOf retQ retP retAll retOne uL_length uL_get? uL_get St.elems retH ownIdx ownAt
attribute [local simp] RunD_none RunD_some RunD_nil RunE_any acD_v acD_call agD_tt agD_ff agD_tf agD_ft agD_tup entsOf svref SO.opds SO.writes SO.makes callEnt pureSV pureOf RV.isOwn
attribute [local simp] abin_add abin_sub abin_mul abin_quo abin_rem abin_eql abin_neq abin_lss abin_leq abin_gtr abin_geq
attribute [local simp] uL_snoc uL_set uL_take uL_drop uL_append uL_replicate uL_nil
attribute [local simp] acK_callG acD_callG St.giv gsSV gvSV retEnts ownEnts SO.still
attribute [local simp] S0G argSlotG givSV retQG retPG retAllG retOneG HObj.width V.scalar trimQ V.byte
attribute [local simp] zv V.fits fillOk fillV Z_eq
theorem smallR_ex (x : Int) : ∃ m ok, smallR x = [.pure (.i .i64 m), .pure (.b ok)] := by
  unfold smallR
  split
  · exact ⟨_, _, rfl⟩
  · exact ⟨_, _, rfl⟩

theorem few2_one (n : Nat) (hn : n ≤ 2 ^ 40) (n1 : Bool) (l1 : List Nat) : Spec Try.prog f_law02_few [.i .i64 (n : Int), .sl (some 2) [zv n1 l1]] (· = [.pure (.b (fewB n [(n1, l1)]))]) := few2 n hn [(n1, l1)] (by simp)
theorem few2_two (n : Nat) (hn : n ≤ 2 ^ 40) (n1 n2 : Bool) (l1 l2 : List Nat) : Spec Try.prog f_law02_few [.i .i64 (n : Int), .sl (some 2) [zv n1 l1, zv n2 l2]] (· = [.pure (.b (fewB n [(n1, l1), (n2, l2)]))]) := few2 n hn [(n1, l1), (n2, l2)] (by simp)
theorem few2_three (n : Nat) (hn : n ≤ 2 ^ 40) (n1 n2 n3 : Bool) (l1 l2 l3 : List Nat) : Spec Try.prog f_law02_few [.i .i64 (n : Int), .sl (some 2) [zv n1 l1, zv n2 l2, zv n3 l3]] (· = [.pure (.b (fewB n [(n1, l1), (n2, l2), (n3, l3)]))]) := few2 n hn [(n1, l1), (n2, l2), (n3, l3)] (by simp)

set_option maxHeartbeats 1000000 in
theorem law_ZintAdds (n1 n2 : Bool) (l1 l2 : List Nat) (h1 : ZW (2 ^ 24) l1) (h2 : ZW (2 ^ 24) l2) (n : Int) (hn1 : -9223372036854775808 ≤ n) (hn2 : n ≤ 9223372036854775807) :
    Spec Try.prog f_law02_ZintAdds [zv n1 l1, zv n2 l2, .i .i64 n] (· = [.pure (.b true)]) := by
  have ia := isZ_zv (n := n1) h1
  have ib := isZ_zv (n := n2) h2
  have sm := zsmall ia (by omega)
  have rs := rsmall ia (by omega)
  obtain ⟨m, ok, hR⟩ := smallR_ex (zi n1 l1)
  rw [hR] at sm rs
  have fw : Spec Try.prog f_law02_few [.i .i64 150, .sl (some 2) [zv n1 l1, zv n2 l2]] (· = [.pure (.b (fewB 150 [(n1, l1), (n2, l2)]))]) := few2_two 150 (by omega) n1 n2 l1 l2
  have za := zadd ia ib (by omega)
  have ra := radd ia ib (by omega)
  have zs := zsub ia ib (by omega)
  have rsb := rsub ia ib (by omega)
  have zm := zmul ia ib (by omega)
  have rm := rmul ia ib (by omega)
  have zng := zneg ia (by omega)
  have rng := rneg ia (by omega)
  have znm := znorm ia (by omega)
  have rnm := rnorm ia (by omega)
  have zc := zcmp ia ib (by omega)
  have rc := rcmp ia ib (by omega)
  have zsg := zsign ia (by omega)
  have rsg := rsign ia (by omega)
  have zo := zof n hn1 hn2
  have ro := rof n hn1 hn2
  have q1 := ia.zlen
  have q2 := ib.zlen
  obtain ⟨x, hx⟩ : ∃ x, x = zi n1 l1 := ⟨_, rfl⟩
  obtain ⟨y, hy⟩ : ∃ x, x = zi n2 l2 := ⟨_, rfl⟩
  rw [← hx] at za ra zs rsb zm rm zng rng znm rnm zc rc zsg rsg q1
  rw [← hy] at za ra zs rsb zm rm zc rc q2
  have p1 := zlen_add x y
  have p2 := zlen_sub x y
  have p3 := zlen_mul x y
  have p4 := zlen_neg x
  have e1 := same2 (x + y) (by omega)
  have e2 := same2 (x - y) (by omega)
  have e3 := same2 (x * y) (by omega)
  have e4 := same2 (-x) (by omega)
  have e5 := same2 x (by omega)
  have e6 := same2 n (by have := zlen_small (x := n) (by omega); omega)
  have aw := awake2
  refine spec_at Try.func16 ok_law02_ZintAdds [] rfl (by simp) ?_
  unfold sc_law02_ZintAdds
  cases hf : fewB 150 [(n1, l1), (n2, l2)] with
  | false =>
    rw [hf] at fw
    refine WS_seq ?_
    refine WS_reg [] ?_
    simp
    refine WS_seq ?_
    refine WS_reg [] ?_
    simp
    refine callK aw ?_
    simp
    refine WS_seq ?_
    refine WS_reg [] ?_
    simp
    refine callK sm ?_
    simp
    refine WS_seq ?_
    refine WS_reg [] ?_
    simp
    refine callK rs ?_
    simp
    refine WS_seq ?_
    refine WS_seq ?_
    refine WS_reg [] ?_
    simp
    refine callK fw ?_
    simp
    refine WS_cond (t := true) (by simp) (fun _ => ?_) (fun h => by cases h)
    refine WS_seq ?_
    refine WS_reg [] ?_
    simp
    refine WS_ret ?_
    simp
  | true =>
    rw [hf] at fw
    refine WS_seq ?_
    refine WS_reg [] ?_
    simp
    refine WS_seq ?_
    refine WS_reg [] ?_
    simp
    refine callK aw ?_
    simp
    refine WS_seq ?_
    refine WS_reg [] ?_
    simp
    refine callK sm ?_
    simp
    refine WS_seq ?_
    refine WS_reg [] ?_
    simp
    refine callK rs ?_
    simp
    refine WS_seq ?_
    refine WS_seq ?_
    refine WS_reg [] ?_
    simp
    refine callK fw ?_
    simp
    refine WS_cond (t := false) (by simp) (fun h => by cases h) (fun _ => ?_)
    refine WS_skip ?_
    simp
    refine WS_seq ?_
    refine WS_regD [] ?_
    simp
    refine callD za rfl ?_
    simp
    refine callD ra rfl ?_
    simp
    refine callD e1 rfl ?_
    simp
    refine callD zs rfl ?_
    simp
    refine callD rsb rfl ?_
    simp
    refine callD e2 rfl ?_
    simp
    refine callD zm rfl ?_
    simp
    refine callD rm rfl ?_
    simp
    refine callD e3 rfl ?_
    simp
    refine callD zng rfl ?_
    simp
    refine callD rng rfl ?_
    simp
    refine callD e4 rfl ?_
    simp
    refine callD znm rfl ?_
    simp
    refine callD rnm rfl ?_
    simp
    refine callD e5 rfl ?_
    simp
    refine callD zc rfl ?_
    simp
    refine callD rc rfl ?_
    simp
    refine callD zsg rfl ?_
    simp
    refine callD rsg rfl ?_
    simp
    refine callD zo rfl ?_
    simp
    refine callD ro rfl ?_
    simp
    refine callD e6 rfl ?_
    simp
    refine ⟨rfl, ?_⟩
    refine WS_ret ?_
    simp
end Go.Vw
