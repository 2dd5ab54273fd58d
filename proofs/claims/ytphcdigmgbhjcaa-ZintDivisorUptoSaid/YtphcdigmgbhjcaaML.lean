/- The contracts of the laws of layer 2. -/
import Derived.Test.YtphcdigmgbhjcaaMA
import Derived.Test.YtphcdigmgbhjcaaMB
import Derived.Test.YtphcdigmgbhjcaaMC
import Derived.Test.YtphcdigmgbhjcaaMD
import Derived.Test.YtphcdigmgbhjcaaME
set_option linter.unusedVariables false
set_option linter.unusedSimpArgs false
namespace Go.Vw
open Go.Proofs

attribute [local simp] RunL_cons RunL_nil AOp_none AOp_some acK_v acK_call agK_tt agK_ff agK_tf agK_ft agK_tup agK_i aop aun St.ev St.heap St.put thenQ blockQ upd_apply S0 argSlot lowV V.cells V.isAgg V.fits V.part partOk plains St.ret retSV svOf svsOf retQ retP retAll retOne uL_length uL_get? uL_get St.elems retH ownIdx ownAt
attribute [local simp] RunD_none RunD_some RunD_nil RunE_any acD_v acD_call agD_tt agD_ff agD_tf agD_ft agD_tup entsOf svref SO.opds SO.writes SO.makes callEnt pureSV pureOf RV.isOwn
attribute [local simp] abin_add abin_sub abin_mul abin_quo abin_rem abin_eql abin_neq abin_lss abin_leq abin_gtr abin_geq
attribute [local simp] uL_snoc uL_set uL_take uL_drop uL_append uL_replicate uL_nil
attribute [local simp] acK_callG acD_callG St.giv gsSV gvSV retEnts ownEnts SO.still
attribute [local simp] S0G argSlotG givSV retQG retPG retAllG retOneG HObj.width V.scalar trimQ V.byte
attribute [local simp] zv V.fits fillOk fillV Z_eq
theorem same2 (x : Int) (hl : zlen x ≤ 2 ^ 40) : Spec Try.prog f_law02_same [Z x, Z x] (· = [.pure (.b true)]) := by
  have sm := zsame x hl
  refine spec_at Try.func62 ok_law02_same [] rfl (by simp) ?_
  unfold sc_law02_same
  refine WS_seq ?_
  refine WS_reg [] ?_
  simp
  refine WS_seq ?_
  refine WS_reg [] ?_
  simp
  refine callK sm ?_
  simp
  refine WS_ret ?_
  simp
end Go.Vw
namespace Go.Vw
open Go.Proofs

attribute [local simp] RunL_cons RunL_nil AOp_none AOp_some acK_v acK_call agK_tt agK_ff agK_tf agK_ft agK_tup agK_i aop aun St.ev St.heap St.put thenQ blockQ upd_apply S0 argSlot lowV V.cells V.isAgg V.fits V.part partOk plains St.ret retSV svOf svsOf retQ retP retAll retOne uL_length uL_get? uL_get St.elems retH ownIdx ownAt
attribute [local simp] RunD_none RunD_some RunD_nil RunE_any acD_v acD_call agD_tt agD_ff agD_tf agD_ft agD_tup entsOf svref SO.opds SO.writes SO.makes callEnt pureSV pureOf RV.isOwn
attribute [local simp] abin_add abin_sub abin_mul abin_quo abin_rem abin_eql abin_neq abin_lss abin_leq abin_gtr abin_geq
attribute [local simp] uL_snoc uL_set uL_take uL_drop uL_append uL_replicate uL_nil
attribute [local simp] acK_callG acD_callG St.giv gsSV gvSV retEnts ownEnts SO.still
attribute [local simp] S0G argSlotG givSV retQG retPG retAllG retOneG HObj.width V.scalar trimQ V.byte
attribute [local simp] zv V.fits fillOk fillV Z_eq
theorem awake2 : Spec Try.prog f_law02_awake [] (· = [.pure (.b true)]) := by
  have o7 := zof (-7) (by omega) (by omega)
  have o2 := zof 2 (by omega) (by omega)
  have dv := zdiv (k := 1) (isZ_Z (z := -7) (zlen_small (by decide))) (isZ_Z (z := 2) (zlen_small (by decide))) (by omega) (by decide)
  rw [show (-7 : Int) / 2 = -4 by decide, show (-7 : Int) % 2 = 1 by decide] at dv
  have sm := zsmall (k := 1) (isZ_Z (z := -4) (zlen_small (by decide))) (by omega)
  rw [smallR, if_pos (by omega)] at sm
  have tt := ztext (k := 1) (isZ_Z (z := 1) (zlen_small (by decide))) (by omega)
  rw [show zT 1 = [49] by rw [zT, if_neg (by omega)]; decide +kernel] at tt
  have sg := zsign (k := 1) (isZ_Z (z := -7) (zlen_small (by decide))) (by omega)
  rw [show (-7 : Int).sign = -1 by decide] at sg
  refine spec_at Try.func56 ok_law02_awake [] rfl (by simp) ?_
  unfold sc_law02_awake
  refine WS_seq ?_
  refine WS_reg [] ?_
  simp [tx, abin_seql]
  refine WS_seq ?_
  refine WS_reg [] ?_
  simp [tx, abin_seql]
  refine callK o7 ?_
  simp [tx, abin_seql]
  refine callK o2 ?_
  simp [tx, abin_seql]
  refine callK dv ?_
  simp [tx, abin_seql]
  refine WS_seq ?_
  refine WS_reg [] ?_
  simp [tx, abin_seql]
  refine callK sm ?_
  simp [tx, abin_seql]
  refine WS_seq ?_
  refine WS_reg [] ?_
  simp [tx, abin_seql]
  refine callK tt ?_
  simp [tx, abin_seql]
  refine callK o7 ?_
  simp [tx, abin_seql]
  refine callK sg ?_
  simp [tx, abin_seql]
  refine WS_ret ?_
  simp [tx, abin_seql]

theorem few2 (n : Nat) (hn : n ≤ 2 ^ 40) (L : List (Bool × List Nat)) (hL : L.length ≤ 2 ^ 40) : Spec Try.prog f_law02_few [.i .i64 (n : Int), .sl (some 2) (zL L)] (· = [.pure (.b (fewB n L))]) := by
  refine spec_at Try.func57 ok_law02_few [] rfl (by simp) ?_
  unfold sc_law02_few
  obtain ⟨m, hm⟩ : ∃ m, m = L.length := ⟨_, rfl⟩
  have hzl : (zL L).length = m := by simp [zL, hm]
  refine WS_seq (WS_reg [] ?_)
  simp
  refine WS_seq (WS_seq (WS_reg [] ?_))
  simp
  refine WS_block (WS_loop (fun S => ∃ i : Nat, i ≤ m ∧ S.σ 0 = .p (.i .i64 (n : Int)) ∧ S.σ 1 = .p (.sl (some 2) (zL L)) ∧ S.σ 5 = .p (.i .i64 (i : Int)) ∧ fewB n (L.take i) = true) (fun S => match S.σ 5 with | .p (.i _ k) => m - k.toNat | _ => 0) ⟨0, by omega, by simp, by simp, by simp, rfl⟩ ?_)
  rintro S ⟨i, hi, s0, s1, s5, hall⟩
  refine WS_seq (WS_seq (WS_reg [] ?_))
  simp [s1, s5, hzl]
  by_cases hlt : i < m
  · have hil : i < L.length := by omega
    have hiz : i < (zL L).length := by omega
    have hlt' : (i : Int) < (m : Int) := by omega
    have hget : (zL L)[i] = .agg [.b L[i].1, .sl none (uL L[i].2)] := by simp [zL]
    have htk : (L.take (i + 1)) = L.take i ++ [L[i]] := List.take_succ_eq_append_getElem hil
    obtain ⟨p, hp⟩ : ∃ p, p = L[i] := ⟨_, rfl⟩
    rw [← hp] at hget htk
    have w1 := i64_succ i (by omega)
    refine WS_cond (t := true) (by simp; omega) (fun _ => ?_) (fun h => by cases h)
    refine WS_skip ?_
    simp
    refine WS_seq (WS_block (WS_seq (WS_reg [] ?_)))
    simp [s0, s1, s5, hiz, hzl, hlt, hlt', hget]
    by_cases hg : (n : Int) < (p.2.length : Int)
    · have hno : fewB n L = false := by
        rw [fewB, List.all_eq_false]
        exact ⟨p, by rw [hp]; exact List.getElem_mem hil, by simp; omega⟩
      rw [hno]
      refine WS_cond (t := true) (by simp; omega) (fun _ => ?_) (fun h => by cases h)
      refine WS_seq (WS_reg [] ?_)
      simp
      refine WS_ret ?_
      simp
    · refine WS_cond (t := false) (by simp; omega) (fun h => by cases h) (fun _ => ?_)
      refine WS_skip ?_
      simp
      refine WS_reg [] ?_
      simp [s0, s1, s5, w1]
      refine ⟨⟨i + 1, by omega, rfl, ?_⟩, by omega⟩
      rw [htk, fewB, List.all_append]
      rw [fewB] at hall
      rw [hall]
      simp at hg ⊢
      omega
  · have him : i = m := by omega
    refine WS_cond (t := false) (by simp; omega) (fun h => by cases h) (fun _ => ?_)
    refine WS_exit ?_
    simp
    refine WS_seq (WS_reg [] ?_)
    simp
    refine WS_ret ?_
    rw [him, List.take_of_length_le (by omega)] at hall
    simp only [hall]
    simp
end Go.Vw
namespace Go.Vw
open Go.Proofs

attribute [local simp] RunL_cons RunL_nil AOp_none AOp_some acK_v acK_call agK_tt agK_ff agK_tf agK_ft agK_tup agK_i aop aun St.ev St.heap St.put thenQ blockQ upd_apply S0 argSlot lowV V.cells V.isAgg V.fits V.part partOk plains St.ret retSV svOf svsOf retQ retP retAll retOne uL_length uL_get? uL_get St.elems retH ownIdx ownAt
attribute [local simp] RunD_none RunD_some RunD_nil RunE_any acD_v acD_call agD_tt agD_ff agD_tf agD_ft agD_tup entsOf svref SO.opds SO.writes SO.makes callEnt pureSV pureOf RV.isOwn
attribute [local simp] abin_add abin_sub abin_mul abin_quo abin_rem abin_eql abin_neq abin_lss abin_leq abin_gtr abin_geq
attribute [local simp] uL_snoc uL_set uL_take uL_drop uL_append uL_replicate uL_nil
attribute [local simp] acK_callG acD_callG St.giv gsSV gvSV retEnts ownEnts SO.still
attribute [local simp] S0G argSlotG givSV retQG retPG retAllG retOneG HObj.width V.scalar trimQ V.byte
attribute [local simp] zv V.fits fillOk fillV Z_eq
theorem few2_one (n : Nat) (hn : n ≤ 2 ^ 40) (n1 : Bool) (l1 : List Nat) : Spec Try.prog f_law02_few [.i .i64 (n : Int), .sl (some 2) [zv n1 l1]] (· = [.pure (.b (fewB n [(n1, l1)]))]) := few2 n hn [(n1, l1)] (by simp)
theorem few2_two (n : Nat) (hn : n ≤ 2 ^ 40) (n1 n2 : Bool) (l1 l2 : List Nat) : Spec Try.prog f_law02_few [.i .i64 (n : Int), .sl (some 2) [zv n1 l1, zv n2 l2]] (· = [.pure (.b (fewB n [(n1, l1), (n2, l2)]))]) := few2 n hn [(n1, l1), (n2, l2)] (by simp)
theorem few2_three (n : Nat) (hn : n ≤ 2 ^ 40) (n1 n2 n3 : Bool) (l1 l2 l3 : List Nat) : Spec Try.prog f_law02_few [.i .i64 (n : Int), .sl (some 2) [zv n1 l1, zv n2 l2, zv n3 l3]] (· = [.pure (.b (fewB n [(n1, l1), (n2, l2), (n3, l3)]))]) := few2 n hn [(n1, l1), (n2, l2), (n3, l3)] (by simp)

set_option maxHeartbeats 1000000 in
theorem law_ZintAdds (n1 n2 : Bool) (l1 l2 : List Nat) (h1 : ZW (2 ^ 24) l1) (h2 : ZW (2 ^ 24) l2) (n : Int) (hn1 : -9223372036854775808 ≤ n) (hn2 : n ≤ 9223372036854775807) :
    Spec Try.prog f_law02_ZintAdds [zv n1 l1, zv n2 l2, .i .i64 n] (· = [.pure (.b true)]) := by
  have ia := isZ_zv (n := n1) h1
  have ib := isZ_zv (n := n2) h2
  have sm := zsmall ia (by omega)
  have rs := rsmall ia (by omega)
  obtain ⟨m, ok, hR⟩ := smallR_ex (zi n1 l1)
  rw [hR] at sm rs
  have fw : Spec Try.prog f_law02_few [.i .i64 150, .sl (some 2) [zv n1 l1, zv n2 l2]] (· = [.pure (.b (fewB 150 [(n1, l1), (n2, l2)]))]) := few2_two 150 (by omega) n1 n2 l1 l2
  have za := zadd ia ib (by omega)
  have ra := radd ia ib (by omega)
  have zs := zsub ia ib (by omega)
  have rsb := rsub ia ib (by omega)
  have zm := zmul ia ib (by omega)
  have rm := rmul ia ib (by omega)
  have zng := zneg ia (by omega)
  have rng := rneg ia (by omega)
  have znm := znorm ia (by omega)
  have rnm := rnorm ia (by omega)
  have zc := zcmp ia ib (by omega)
  have rc := rcmp ia ib (by omega)
  have zsg := zsign ia (by omega)
  have rsg := rsign ia (by omega)
  have zo := zof n hn1 hn2
  have ro := rof n hn1 hn2
  have q1 := ia.zlen
  have q2 := ib.zlen
  obtain ⟨x, hx⟩ : ∃ x, x = zi n1 l1 := ⟨_, rfl⟩
  obtain ⟨y, hy⟩ : ∃ x, x = zi n2 l2 := ⟨_, rfl⟩
  rw [← hx] at za ra zs rsb zm rm zng rng znm rnm zc rc zsg rsg q1
  rw [← hy] at za ra zs rsb zm rm zc rc q2
  have p1 := zlen_add x y
  have p2 := zlen_sub x y
  have p3 := zlen_mul x y
  have p4 := zlen_neg x
  have e1 := same2 (x + y) (by omega)
  have e2 := same2 (x - y) (by omega)
  have e3 := same2 (x * y) (by omega)
  have e4 := same2 (-x) (by omega)
  have e5 := same2 x (by omega)
  have e6 := same2 n (by have := zlen_small (x := n) (by omega); omega)
  have aw := awake2
  refine spec_at Try.func16 ok_law02_ZintAdds [] rfl (by simp) ?_
  unfold sc_law02_ZintAdds
  cases hf : fewB 150 [(n1, l1), (n2, l2)] with
  | false =>
    rw [hf] at fw
    refine WS_seq ?_
    refine WS_reg [] ?_
    simp
    refine WS_seq ?_
    refine WS_reg [] ?_
    simp
    refine callK aw ?_
    simp
    refine WS_seq ?_
    refine WS_reg [] ?_
    simp
    refine callK sm ?_
    simp
    refine WS_seq ?_
    refine WS_reg [] ?_
    simp
    refine callK rs ?_
    simp
    refine WS_seq ?_
    refine WS_seq ?_
    refine WS_reg [] ?_
    simp
    refine callK fw ?_
    simp
    refine WS_cond (t := true) (by simp) (fun _ => ?_) (fun h => by cases h)
    refine WS_seq ?_
    refine WS_reg [] ?_
    simp
    refine WS_ret ?_
    simp
  | true =>
    rw [hf] at fw
    refine WS_seq ?_
    refine WS_reg [] ?_
    simp
    refine WS_seq ?_
    refine WS_reg [] ?_
    simp
    refine callK aw ?_
    simp
    refine WS_seq ?_
    refine WS_reg [] ?_
    simp
    refine callK sm ?_
    simp
    refine WS_seq ?_
    refine WS_reg [] ?_
    simp
    refine callK rs ?_
    simp
    refine WS_seq ?_
    refine WS_seq ?_
    refine WS_reg [] ?_
    simp
    refine callK fw ?_
    simp
    refine WS_cond (t := false) (by simp) (fun h => by cases h) (fun _ => ?_)
    refine WS_skip ?_
    simp
    refine WS_seq ?_
    refine WS_regD [] ?_
    simp
    refine callD za rfl ?_
    simp
    refine callD ra rfl ?_
    simp
    refine callD e1 rfl ?_
    simp
    refine callD zs rfl ?_
    simp
    refine callD rsb rfl ?_
    simp
    refine callD e2 rfl ?_
    simp
    refine callD zm rfl ?_
    simp
    refine callD rm rfl ?_
    simp
    refine callD e3 rfl ?_
    simp
    refine callD zng rfl ?_
    simp
    refine callD rng rfl ?_
    simp
    refine callD e4 rfl ?_
    simp
    refine callD znm rfl ?_
    simp
    refine callD rnm rfl ?_
    simp
    refine callD e5 rfl ?_
    simp
    refine callD zc rfl ?_
    simp
    refine callD rc rfl ?_
    simp
    refine callD zsg rfl ?_
    simp
    refine callD rsg rfl ?_
    simp
    refine callD zo rfl ?_
    simp
    refine callD ro rfl ?_
    simp
    refine callD e6 rfl ?_
    simp
    refine ⟨rfl, ?_⟩
    refine WS_ret ?_
    simp
end Go.Vw
namespace Go.Vw
open Go.Proofs

attribute [local simp] RunL_cons RunL_nil AOp_none AOp_some acK_v acK_call agK_tt agK_ff agK_tf agK_ft agK_tup agK_i aop aun St.ev St.heap St.put thenQ blockQ upd_apply S0 argSlot lowV V.cells V.isAgg V.fits V.part partOk plains St.ret retSV svOf svsOf retQ retP retAll retOne uL_length uL_get? uL_get St.elems retH ownIdx ownAt
attribute [local simp] RunD_none RunD_some RunD_nil RunE_any acD_v acD_call agD_tt agD_ff agD_tf agD_ft agD_tup entsOf svref SO.opds SO.writes SO.makes callEnt pureSV pureOf RV.isOwn
attribute [local simp] abin_add abin_sub abin_mul abin_quo abin_rem abin_eql abin_neq abin_lss abin_leq abin_gtr abin_geq
attribute [local simp] uL_snoc uL_set uL_take uL_drop uL_append uL_replicate uL_nil
attribute [local simp] acK_callG acD_callG St.giv gsSV gvSV retEnts ownEnts SO.still
attribute [local simp] S0G argSlotG givSV retQG retPG retAllG retOneG HObj.width V.scalar trimQ V.byte
attribute [local simp] zv V.fits fillOk fillV Z_eq
set_option maxHeartbeats 2000000 in
theorem law_ZintRing (n1 n2 n3 : Bool) (l1 l2 l3 : List Nat) (h1 : ZW (2 ^ 24) l1) (h2 : ZW (2 ^ 24) l2) (h3 : ZW (2 ^ 24) l3) :
    Spec Try.prog f_law02_ZintRing [zv n1 l1, zv n2 l2, zv n3 l3] (· = [.pure (.b true)]) := by
  have ia := isZ_zv (n := n1) h1
  have ib := isZ_zv (n := n2) h2
  have ic := isZ_zv (n := n3) h3
  have fw : Spec Try.prog f_law02_few [.i .i64 60, .sl (some 2) [zv n1 l1, zv n2 l2, zv n3 l3]] (· = [.pure (.b (fewB 60 [(n1, l1), (n2, l2), (n3, l3)]))]) := few2_three 60 (by omega) n1 n2 n3 l1 l2 l3
  have q1 := ia.zlen
  have q2 := ib.zlen
  have q3 := ic.zlen
  obtain ⟨x, hx⟩ : ∃ x, x = zi n1 l1 := ⟨_, rfl⟩
  obtain ⟨y, hy⟩ : ∃ x, x = zi n2 l2 := ⟨_, rfl⟩
  obtain ⟨z, hz⟩ : ∃ x, x = zi n3 l3 := ⟨_, rfl⟩
  rw [← hx] at ia q1
  rw [← hy] at ib q2
  rw [← hz] at ic q3
  have p1 := zlen_add x y
  have p2 := zlen_add y z
  have p3 := zlen_add (x + y) z
  have m1 := zlen_mul x y
  have m2 := zlen_mul y z
  have m3 := zlen_mul (x * y) z
  have m4 := zlen_mul x z
  have m5 := zlen_mul x (y + z)
  have p4 := zlen_neg x
  have a1 := zadd ia ib (by omega)
  have a2 := zadd ib ia (by omega)
  rw [Int.add_comm y x] at a2
  have b1 := zmul ia ib (by omega)
  have b2 := zmul ib ia (by omega)
  rw [Int.mul_comm y x] at b2
  have c1 := zadd (isZ_of (x := x + y) (k := 2 ^ 26) (by omega)) (ic.mono (by omega)) (by omega)
  have c2 := zadd ib ic (by omega)
  have c3 := zadd (ia.mono (by omega)) (isZ_of (x := y + z) (k := 2 ^ 26) (by omega)) (by omega)
  rw [← Int.add_assoc] at c3
  have d1 := zmul (isZ_of (x := x * y) (k := 2 ^ 26) (by omega)) (ic.mono (by omega)) (by omega)
  have d2 := zmul ib ic (by omega)
  have d3 := zmul (ia.mono (by omega)) (isZ_of (x := y * z) (k := 2 ^ 26) (by omega)) (by omega)
  rw [← Int.mul_assoc] at d3
  have g1 := zmul (ia.mono (by omega)) (isZ_of (x := y + z) (k := 2 ^ 26) (by omega)) (by omega)
  have g2 := zmul ia ic (by omega)
  have g3 := zadd (isZ_of (x := x * y) (k := 2 ^ 27) (by omega)) (isZ_of (x := x * z) (k := 2 ^ 27) (by omega)) (by omega)
  rw [← Int.mul_add] at g3
  have n1' := zneg ia (by omega)
  have n2' := zadd ia (isZ_of (x := -x) (k := 2 ^ 24) (by omega)) (by omega)
  rw [Int.add_right_neg] at n2'
  have o0 := zof 0 (by omega) (by omega)
  have o1 := zof 1 (by omega) (by omega)
  have u1 := zmul ia (isZ_of (x := 1) (k := 2 ^ 24) (by have := zlen_one; omega)) (by omega)
  rw [Int.mul_one] at u1
  have nm := znorm ia (by omega)
  have nn := zneg (isZ_of (x := -x) (k := 2 ^ 24) (by omega)) (by omega)
  rw [Int.neg_neg] at nn
  have e1 := same2 (x + y) (by omega)
  have e2 := same2 (x * y) (by omega)
  have e3 := same2 (x + y + z) (by omega)
  have e4 := same2 (x * y * z) (by omega)
  have e5 := same2 (x * (y + z)) (by omega)
  have e6 := same2 0 (by have := zlen_zero; omega)
  have e7 := same2 x (by omega)
  have aw := awake2
  refine spec_at Try.func15 ok_law02_ZintRing [] rfl (by simp) ?_
  unfold sc_law02_ZintRing
  cases hf : fewB 60 [(n1, l1), (n2, l2), (n3, l3)] with
  | false =>
    rw [hf] at fw
    refine WS_seq ?_
    refine WS_reg [] ?_
    simp
    refine WS_seq ?_
    refine WS_reg [] ?_
    simp
    refine callK aw ?_
    simp
    refine WS_seq ?_
    refine WS_seq ?_
    refine WS_reg [] ?_
    simp
    refine callK fw ?_
    simp
    refine WS_cond (t := true) (by simp) (fun _ => ?_) (fun h => by cases h)
    refine WS_seq ?_
    refine WS_reg [] ?_
    simp
    refine WS_ret ?_
    simp
  | true =>
    rw [hf] at fw
    refine WS_seq ?_
    refine WS_reg [] ?_
    simp
    refine WS_seq ?_
    refine WS_reg [] ?_
    simp
    refine callK aw ?_
    simp
    refine WS_seq ?_
    refine WS_seq ?_
    refine WS_reg [] ?_
    simp
    refine callK fw ?_
    simp
    refine WS_cond (t := false) (by simp) (fun h => by cases h) (fun _ => ?_)
    refine WS_skip ?_
    simp
    refine WS_seq ?_
    refine WS_reg [] ?_
    simp
    refine callK o0 ?_
    simp
    refine WS_seq ?_
    refine WS_regD [] ?_
    simp
    refine callD a1 rfl ?_
    simp
    refine callD a2 rfl ?_
    simp
    refine callD e1 rfl ?_
    simp
    refine callD b1 rfl ?_
    simp
    refine callD b2 rfl ?_
    simp
    refine callD e2 rfl ?_
    simp
    refine callD a1 rfl ?_
    simp
    refine callD c1 rfl ?_
    simp
    refine callD c2 rfl ?_
    simp
    refine callD c3 rfl ?_
    simp
    refine callD e3 rfl ?_
    simp
    refine callD b1 rfl ?_
    simp
    refine callD d1 rfl ?_
    simp
    refine callD d2 rfl ?_
    simp
    refine callD d3 rfl ?_
    simp
    refine callD e4 rfl ?_
    simp
    refine callD c2 rfl ?_
    simp
    refine callD g1 rfl ?_
    simp
    refine callD b1 rfl ?_
    simp
    refine callD g2 rfl ?_
    simp
    refine callD g3 rfl ?_
    simp
    refine callD e5 rfl ?_
    simp
    refine callD n1' rfl ?_
    simp
    refine callD n2' rfl ?_
    simp
    refine callD e6 rfl ?_
    simp
    refine callD o1 rfl ?_
    simp
    refine callD u1 rfl ?_
    simp
    refine callD nm rfl ?_
    simp
    refine callD e7 rfl ?_
    simp
    refine callD n1' rfl ?_
    simp
    refine callD nn rfl ?_
    simp
    refine callD nm rfl ?_
    simp
    refine callD e7 rfl ?_
    simp
    refine ⟨rfl, ?_⟩
    refine WS_ret ?_
    simp

set_option maxHeartbeats 1000000 in
theorem law_ZintDivides (n1 n2 : Bool) (l1 l2 : List Nat) (h1 : ZW (2 ^ 24) l1) (h2 : ZW (2 ^ 24) l2) :
    Spec Try.prog f_law02_ZintDivides [zv n1 l1, zv n2 l2] (· = [.pure (.b true)]) := by
  have ia := isZ_zv (n := n1) h1
  have ib := isZ_zv (n := n2) h2
  have fw : Spec Try.prog f_law02_few [.i .i64 40, .sl (some 2) [zv n1 l1, zv n2 l2]] (· = [.pure (.b (fewB 40 [(n1, l1), (n2, l2)]))]) := few2_two 40 (by omega) n1 n2 l1 l2
  have q1 := ia.zlen
  have q2 := ib.zlen
  obtain ⟨x, hx⟩ : ∃ x, x = zi n1 l1 := ⟨_, rfl⟩
  obtain ⟨y, hy⟩ : ∃ x, x = zi n2 l2 := ⟨_, rfl⟩
  rw [← hx] at ia q1
  rw [← hy] at ib q2
  have x1 := zexact ia ib (by omega)
  have x2 := rexact ia ib (by omega)
  obtain ⟨qe, ee, hE, hEl⟩ := exactR_ex x y
  rw [hE] at x1 x2
  obtain ⟨q, r, e, d1, d2, t1, t2⟩ : ∃ q r e : Int, Spec Try.prog f_zint_Div [zv n1 l1, zv n2 l2] (· = [.pure (Z q), .pure (Z r), .pure (.i .i64 e)]) ∧ Spec Try.prog f_ref02_Div [zv n1 l1, zv n2 l2] (· = [.pure (Z q), .pure (Z r), .pure (.i .i64 e)]) ∧ zlen q ≤ 2 ^ 24 ∧ zlen r ≤ 2 ^ 24 := by
    by_cases h0 : y = 0
    · subst h0
      exact ⟨0, 0, 3, zdiv_zero ia ib (by omega), rdivz_zero ia ib (by omega), by rw [zlen_zero]; omega, by rw [zlen_zero]; omega⟩
    · have t1 := zlen_ediv x y
      have t2 := zlen_emod x y h0
      exact ⟨x / y, x % y, 0, zdiv ia ib (by omega) h0, rdivz ia ib (by omega) h0, by omega, by omega⟩
  have e1 := same2 q (by omega)
  have e2 := same2 r (by omega)
  have e3 := same2 qe (by omega)
  have aw := awake2
  refine spec_at Try.func12 ok_law02_ZintDivides [] rfl (by simp) ?_
  unfold sc_law02_ZintDivides
  cases hf : fewB 40 [(n1, l1), (n2, l2)] with
  | false =>
    rw [hf] at fw
    refine WS_seq ?_
    refine WS_reg [] ?_
    simp
    refine WS_seq ?_
    refine WS_reg [] ?_
    simp
    refine callK aw ?_
    simp
    refine WS_seq ?_
    refine WS_seq ?_
    refine WS_reg [] ?_
    simp
    refine callK fw ?_
    simp
    refine WS_cond (t := true) (by simp) (fun _ => ?_) (fun h => by cases h)
    refine WS_seq ?_
    refine WS_reg [] ?_
    simp
    refine WS_ret ?_
    simp
  | true =>
    rw [hf] at fw
    refine WS_seq ?_
    refine WS_reg [] ?_
    simp
    refine WS_seq ?_
    refine WS_reg [] ?_
    simp
    refine callK aw ?_
    simp
    refine WS_seq ?_
    refine WS_seq ?_
    refine WS_reg [] ?_
    simp
    refine callK fw ?_
    simp
    refine WS_cond (t := false) (by simp) (fun h => by cases h) (fun _ => ?_)
    refine WS_skip ?_
    simp
    refine WS_seq ?_
    refine WS_reg [] ?_
    simp
    refine callK d1 ?_
    simp
    refine WS_seq ?_
    refine WS_reg [] ?_
    simp
    refine callK d2 ?_
    simp
    refine WS_seq ?_
    refine WS_reg [] ?_
    simp
    refine callK x1 ?_
    simp
    refine WS_seq ?_
    refine WS_reg [] ?_
    simp
    refine callK x2 ?_
    simp
    refine WS_seq ?_
    refine WS_reg [] ?_
    simp
    refine callK e1 ?_
    simp
    refine callK e2 ?_
    simp
    refine callK e3 ?_
    simp
    refine WS_ret ?_
    simp

set_option maxHeartbeats 1000000 in
theorem law_ZintRest (n1 n2 : Bool) (l1 l2 : List Nat) (h1 : ZW (2 ^ 24) l1) (h2 : ZW (2 ^ 24) l2) :
    Spec Try.prog f_law02_ZintRest [zv n1 l1, zv n2 l2] (· = [.pure (.b true)]) := by
  have ia := isZ_zv (n := n1) h1
  have ib := isZ_zv (n := n2) h2
  have fw : Spec Try.prog f_law02_few [.i .i64 100, .sl (some 2) [zv n1 l1, zv n2 l2]] (· = [.pure (.b (fewB 100 [(n1, l1), (n2, l2)]))]) := few2_two 100 (by omega) n1 n2 l1 l2
  have q1 := ia.zlen
  have q2 := ib.zlen
  obtain ⟨x, hx⟩ : ∃ x, x = zi n1 l1 := ⟨_, rfl⟩
  obtain ⟨y, hy⟩ : ∃ x, x = zi n2 l2 := ⟨_, rfl⟩
  rw [← hx] at ia q1
  rw [← hy] at ib q2
  have sgb := zsign ib (by omega)
  have aw := awake2
  refine spec_at Try.func17 ok_law02_ZintRest [] rfl (by simp) ?_
  unfold sc_law02_ZintRest
  cases hf : fewB 100 [(n1, l1), (n2, l2)] with
  | false =>
    rw [hf] at fw
    refine WS_seq ?_
    refine WS_reg [] ?_
    simp
    refine WS_seq ?_
    refine WS_reg [] ?_
    simp
    refine callK aw ?_
    simp
    refine WS_seq ?_
    refine WS_seq ?_
    refine WS_reg [] ?_
    simp
    refine callK fw ?_
    simp
    refine WS_cond (t := true) (by simp) (fun _ => ?_) (fun h => by cases h)
    refine WS_seq ?_
    refine WS_reg [] ?_
    simp
    refine WS_ret ?_
    simp
  | true =>
    rw [hf] at fw
    by_cases h0 : y = 0
    · have d0 := zdiv_zero ia (h0 ▸ ib) (by omega)
      rw [h0, Int.sign_zero] at sgb
      refine WS_seq ?_
      refine WS_reg [] ?_
      simp
      refine WS_seq ?_
      refine WS_reg [] ?_
      simp
      refine callK aw ?_
      simp
      refine WS_seq ?_
      refine WS_seq ?_
      refine WS_reg [] ?_
      simp
      refine callK fw ?_
      simp
      refine WS_cond (t := false) (by simp) (fun h => by cases h) (fun _ => ?_)
      refine WS_skip ?_
      simp
      refine WS_seq ?_
      refine WS_reg [] ?_
      simp
      refine callK d0 ?_
      simp
      refine WS_seq ?_
      refine WS_seq ?_
      refine WS_reg [] ?_
      simp
      refine callK sgb ?_
      simp
      refine WS_cond (t := true) (by simp) (fun _ => ?_) (fun h => by cases h)
      refine WS_seq ?_
      refine WS_reg [] ?_
      simp
      refine WS_ret ?_
      simp
    · have t1 := zlen_ediv x y
      have t2 := zlen_emod x y h0
      have t3 := zlen_mul x y
      have t4 := zlen_mul (x / y) y
      have dv := zdiv ia ib (by omega) h0
      have mu := zmul ia ib (by omega)
      have ex := zexact (isZ_of (x := x * y) (k := 2 ^ 26) (by omega)) (ib.mono (by omega)) (by omega)
      rw [exactR, if_neg h0, Int.mul_emod_left, if_pos rfl, Int.mul_ediv_cancel _ h0] at ex
      have hsg : y.sign ≠ 0 := by rw [Ne, Int.sign_eq_zero_iff_zero]; exact h0
      have mq := zmul (isZ_of (x := x / y) (k := 2 ^ 26) (by omega)) (ib.mono (by omega)) (by omega)
      have ad := zadd (isZ_of (x := x / y * y) (k := 2 ^ 28) (by omega)) (isZ_of (x := x % y) (k := 2 ^ 28) (by omega)) (by omega)
      rw [Int.ediv_mul_add_emod] at ad
      have hr0 := Int.emod_nonneg x h0
      have hrlt := Int.emod_lt x h0
      have c1 := zcmp (isZ_of (x := x % y) (k := 2 ^ 26) (by omega)) (ib.mono (by omega)) (by omega)
      have ng := zneg ib (by omega)
      have t5 := zlen_neg y
      have c2 := zcmp (isZ_of (x := x % y) (k := 2 ^ 26) (by omega)) (isZ_of (x := -y) (k := 2 ^ 26) (by omega)) (by omega)
      have nm := znorm ia (by omega)
      have e1 := same2 x (by omega)
      have sr := zsign (isZ_of (x := x % y) (k := 2 ^ 26) (by omega)) (by omega)
      have hsr : ¬ (x % y).sign < 0 := by
        rcases Int.lt_or_eq_of_le hr0 with h | h
        · rw [sign_gt h]; omega
        · rw [← h]; simp
      have hsr' : 0 ≤ (x % y).sign := by omega
      by_cases hy0 : 0 < y
      · rw [sign_lt (show x % y - y < 0 by omega)] at c1
        rw [sign_gt hy0] at sgb
        refine WS_seq ?_
        refine WS_reg [] ?_
        simp [hsr']
        refine WS_seq ?_
        refine WS_reg [] ?_
        simp [hsr']
        refine callK aw ?_
        simp [hsr']
        refine WS_seq ?_
        refine WS_seq ?_
        refine WS_reg [] ?_
        simp [hsr']
        refine callK fw ?_
        simp [hsr']
        refine WS_cond (t := false) (by simp [hsr']) (fun h => by cases h) (fun _ => ?_)
        refine WS_skip ?_
        simp [hsr']
        refine WS_seq ?_
        refine WS_reg [] ?_
        simp [hsr']
        refine callK dv ?_
        simp [hsr']
        refine WS_seq ?_
        refine WS_seq ?_
        refine WS_reg [] ?_
        simp [hsr']
        refine callK sgb ?_
        simp [hsr']
        refine WS_cond (t := false) (by simp [hsr']) (fun h => by cases h) (fun _ => ?_)
        refine WS_skip ?_
        simp [hsr']
        refine WS_seq ?_
        refine WS_regD [] ?_
        simp [hsr']
        refine callD mu rfl ?_
        simp [hsr']
        refine callD ex rfl ?_
        simp [hsr']
        refine ⟨rfl, ?_⟩
        refine WS_seq ?_
        refine WS_regD [] ?_
        simp [hsr']
        refine callD c1 rfl ?_
        simp [hsr']
        refine ⟨rfl, ?_⟩
        refine WS_seq ?_
        refine WS_regD [] ?_
        simp [hsr']
        refine callD mq rfl ?_
        simp [hsr']
        refine callD ad rfl ?_
        simp [hsr']
        refine callD nm rfl ?_
        simp [hsr']
        refine callD e1 rfl ?_
        simp [hsr']
        refine callD sr rfl ?_
        simp [hsr']
        refine callD nm rfl ?_
        simp [hsr']
        refine callD e1 rfl ?_
        simp [hsr']
        refine ⟨rfl, ?_⟩
        refine WS_ret ?_
        simp [hsr']
      · rw [sign_gt (show 0 < x % y - y by omega)] at c1
        rw [sign_lt (show y < 0 by omega)] at sgb
        rw [sign_lt (show x % y - -y < 0 by omega)] at c2
        refine WS_seq ?_
        refine WS_reg [] ?_
        simp [hsr']
        refine WS_seq ?_
        refine WS_reg [] ?_
        simp [hsr']
        refine callK aw ?_
        simp [hsr']
        refine WS_seq ?_
        refine WS_seq ?_
        refine WS_reg [] ?_
        simp [hsr']
        refine callK fw ?_
        simp [hsr']
        refine WS_cond (t := false) (by simp [hsr']) (fun h => by cases h) (fun _ => ?_)
        refine WS_skip ?_
        simp [hsr']
        refine WS_seq ?_
        refine WS_reg [] ?_
        simp [hsr']
        refine callK dv ?_
        simp [hsr']
        refine WS_seq ?_
        refine WS_seq ?_
        refine WS_reg [] ?_
        simp [hsr']
        refine callK sgb ?_
        simp [hsr']
        refine WS_cond (t := false) (by simp [hsr']) (fun h => by cases h) (fun _ => ?_)
        refine WS_skip ?_
        simp [hsr']
        refine WS_seq ?_
        refine WS_regD [] ?_
        simp [hsr']
        refine callD mu rfl ?_
        simp [hsr']
        refine callD ex rfl ?_
        simp [hsr']
        refine ⟨rfl, ?_⟩
        refine WS_seq ?_
        refine WS_regD [] ?_
        simp [hsr']
        refine callD c1 rfl ?_
        simp [hsr']
        refine callD ng rfl ?_
        simp [hsr']
        refine callD c2 rfl ?_
        simp [hsr']
        refine ⟨rfl, ?_⟩
        refine WS_seq ?_
        refine WS_regD [] ?_
        simp [hsr']
        refine callD mq rfl ?_
        simp [hsr']
        refine callD ad rfl ?_
        simp [hsr']
        refine callD nm rfl ?_
        simp [hsr']
        refine callD e1 rfl ?_
        simp [hsr']
        refine callD sr rfl ?_
        simp [hsr']
        refine callD nm rfl ?_
        simp [hsr']
        refine callD e1 rfl ?_
        simp [hsr']
        refine ⟨rfl, ?_⟩
        refine WS_ret ?_
        simp [hsr']
end Go.Vw
namespace Go.Vw
open Go.Proofs

attribute [local simp] RunL_cons RunL_nil AOp_none AOp_some acK_v acK_call agK_tt agK_ff agK_tf agK_ft agK_tup agK_i aop aun St.ev St.heap St.put thenQ blockQ upd_apply S0 argSlot lowV V.cells V.isAgg V.fits V.part partOk plains St.ret retSV svOf svsOf retQ retP retAll retOne uL_length uL_get? uL_get St.elems retH ownIdx ownAt
attribute [local simp] RunD_none RunD_some RunD_nil RunE_any acD_v acD_call agD_tt agD_ff agD_tf agD_ft agD_tup entsOf svref SO.opds SO.writes SO.makes callEnt pureSV pureOf RV.isOwn
attribute [local simp] abin_add abin_sub abin_mul abin_quo abin_rem abin_eql abin_neq abin_lss abin_leq abin_gtr abin_geq
attribute [local simp] uL_snoc uL_set uL_take uL_drop uL_append uL_replicate uL_nil
attribute [local simp] acK_callG acD_callG St.giv gsSV gvSV retEnts ownEnts SO.still
attribute [local simp] S0G argSlotG givSV retQG retPG retAllG retOneG HObj.width V.scalar trimQ V.byte
attribute [local simp] zv V.fits fillOk fillV Z_eq
set_option maxHeartbeats 1000000 in
theorem law_ZintTexts (n1 : Bool) (l1 : List Nat) (h1 : ZW (2 ^ 24) l1) (s : List UInt8) (hs : s.length ≤ 2 ^ 40) :
    Spec Try.prog f_law02_ZintTexts [zv n1 l1, tx s] (· = [.pure (.b true)]) := by
  have ia := isZ_zv (n := n1) h1
  have fw : Spec Try.prog f_law02_few [.i .i64 60, .sl (some 2) [zv n1 l1]] (· = [.pure (.b (fewB 60 [(n1, l1)]))]) := few2_one 60 (by omega) n1 l1
  have p1 := zparse s hs
  have p2 := rzparse s hs
  obtain ⟨z, e, hR, hz⟩ : ∃ (z : Int) (e : Int), zPR (zP s) = [.pure (Z z), .pure (.i .i64 e)] ∧ zlen z ≤ 4096 := by
    cases h : zP s with
    | none => exact ⟨0, 2, rfl, by rw [zlen_zero]; omega⟩
    | some z => exact ⟨z, 0, rfl, zP_len h⟩
  rw [hR] at p1 p2
  have sm := same2 z (by omega)
  have t1 := ztext ia (by omega)
  have t2 := rztext ia (by omega)
  obtain ⟨T, hT⟩ : ∃ T, T = zT (zi n1 l1) := ⟨_, rfl⟩
  rw [← hT] at t1 t2
  have aw := awake2
  refine spec_at Try.func13 ok_law02_ZintTexts [] rfl (by simp) ?_
  unfold sc_law02_ZintTexts
  cases hf : fewB 60 [(n1, l1)] with
  | false =>
    rw [hf] at fw
    refine WS_seq ?_
    refine WS_reg [] ?_
    simp [tx]
    refine WS_seq ?_
    refine WS_reg [] ?_
    simp [tx]
    refine callK aw ?_
    simp [tx]
    refine WS_seq ?_
    refine WS_reg [] ?_
    simp [tx]
    refine callK p1 ?_
    simp [tx]
    refine WS_seq ?_
    refine WS_reg [] ?_
    simp [tx]
    refine callK p2 ?_
    simp [tx]
    refine WS_seq ?_
    refine WS_seq ?_
    refine WS_reg [] ?_
    simp [tx]
    refine callK sm ?_
    simp [tx]
    refine callK fw ?_
    simp [tx]
    refine WS_cond (t := true) (by simp [tx]) (fun _ => ?_) (fun h => by cases h)
    refine WS_seq ?_
    refine WS_reg [] ?_
    simp [tx]
    refine callK sm ?_
    simp [tx]
    refine WS_ret ?_
    simp [tx]
  | true =>
    rw [hf] at fw
    refine WS_seq ?_
    refine WS_reg [] ?_
    simp [tx, abin_seql]
    refine WS_seq ?_
    refine WS_reg [] ?_
    simp [tx, abin_seql]
    refine callK aw ?_
    simp [tx, abin_seql]
    refine WS_seq ?_
    refine WS_reg [] ?_
    simp [tx, abin_seql]
    refine callK p1 ?_
    simp [tx, abin_seql]
    refine WS_seq ?_
    refine WS_reg [] ?_
    simp [tx, abin_seql]
    refine callK p2 ?_
    simp [tx, abin_seql]
    refine WS_seq ?_
    refine WS_seq ?_
    refine WS_reg [] ?_
    simp [tx, abin_seql]
    refine callK sm ?_
    simp [tx, abin_seql]
    refine callK fw ?_
    simp [tx, abin_seql]
    refine WS_cond (t := false) (by simp [tx, abin_seql]) (fun h => by cases h) (fun _ => ?_)
    refine WS_skip ?_
    simp [tx, abin_seql]
    refine WS_seq ?_
    refine WS_regD [] ?_
    simp [tx, abin_seql]
    refine callD t1 rfl ?_
    simp [tx, abin_seql]
    refine callD t2 rfl ?_
    simp [tx, abin_seql]
    refine ⟨rfl, ?_⟩
    refine WS_ret ?_
    simp [tx, abin_seql]

set_option maxHeartbeats 1000000 in
theorem law_ZintBack (n1 : Bool) (l1 : List Nat) (h1 : ZW (2 ^ 24) l1) (s : List UInt8) (hs : s.length ≤ 2 ^ 40) (n : Int) (hn1 : -9223372036854775808 ≤ n) (hn2 : n ≤ 9223372036854775807) :
    Spec Try.prog f_law02_ZintBack [zv n1 l1, tx s, .i .i64 n] (· = [.pure (.b true)]) := by
  have ia := isZ_zv (n := n1) h1
  have fw : Spec Try.prog f_law02_few [.i .i64 150, .sl (some 2) [zv n1 l1]] (· = [.pure (.b (fewB 150 [(n1, l1)]))]) := few2_one 150 (by omega) n1 l1
  have p1 := zparse s hs
  have zo := zof n hn1 hn2
  have sm := zsmall (isZ_Z (z := n) (k := 1) (zlen_small (by omega))) (by omega)
  rw [smallR, if_pos ⟨hn1, hn2⟩] at sm
  have t1 := ztext ia (by omega)
  have nm := znorm ia (by omega)
  have q1 := ia.zlen
  obtain ⟨x, hx⟩ : ∃ x, x = zi n1 l1 := ⟨_, rfl⟩
  rw [← hx] at t1 nm q1
  have e1 := same2 x (by omega)
  have aw := awake2
  have hlen : fewB 150 [(n1, l1)] = true → zPR (zP (zT x)) = [.pure (Z x), .pure (.i .i64 0)] ∧ (zT x).length ≤ 2 ^ 40 := by
    intro hf
    simp only [fewB, List.all_cons, List.all_nil, Bool.and_true, decide_eq_true_eq] at hf
    have hv := Nm.val_lt h1.dl
    have hl := Nm.decT_length (n := x.natAbs) (L := l1.length) (by rw [hx, zi_abs]; exact hv)
    refine ⟨by rw [zP_zT (by omega)]; rfl, ?_⟩
    unfold zT
    split
    · simp; omega
    · omega
  refine spec_at Try.func14 ok_law02_ZintBack [] rfl (by simp) ?_
  unfold sc_law02_ZintBack
  cases hf : fewB 150 [(n1, l1)] with
  | false =>
    rw [hf] at fw
    cases hp : zP s with
    | none =>
      rw [hp, zPR, Z_eq] at p1
      refine WS_seq ?_
      refine WS_reg [] ?_
      simp [tx]
      refine WS_seq ?_
      refine WS_reg [] ?_
      simp [tx]
      refine callK aw ?_
      simp [tx]
      refine WS_seq ?_
      refine WS_reg [] ?_
      simp [tx]
      refine callK p1 ?_
      simp [tx]
      refine WS_seq ?_
      refine WS_reg [] ?_
      simp [tx]
      refine callK zo ?_
      simp [tx]
      refine callK sm ?_
      simp [tx]
      refine WS_seq ?_
      refine WS_seq ?_
      refine WS_reg [] ?_
      simp [tx]
      refine callK fw ?_
      simp [tx]
      refine WS_cond (t := true) (by simp [tx]) (fun _ => ?_) (fun h => by cases h)
      refine WS_seq ?_
      refine WS_reg [] ?_
      simp [tx]
      refine WS_ret ?_
      simp [tx]
    | some z =>
      rw [hp, zPR] at p1
      have hz := zP_len hp
      have tz := ztext (isZ_Z (z := z) (k := 4096) hz) (by omega)
      rw [zP_inv hp] at tz
      refine WS_seq ?_
      refine WS_reg [] ?_
      simp [tx, abin_seql, abin_sneq]
      refine WS_seq ?_
      refine WS_reg [] ?_
      simp [tx, abin_seql, abin_sneq]
      refine callK aw ?_
      simp [tx, abin_seql, abin_sneq]
      refine WS_seq ?_
      refine WS_reg [] ?_
      simp [tx, abin_seql, abin_sneq]
      refine callK p1 ?_
      simp [tx, abin_seql, abin_sneq]
      refine WS_seq ?_
      refine WS_reg [] ?_
      simp [tx, abin_seql, abin_sneq]
      refine callK zo ?_
      simp [tx, abin_seql, abin_sneq]
      refine callK sm ?_
      simp [tx, abin_seql, abin_sneq]
      refine WS_seq ?_
      refine WS_seq ?_
      refine WS_reg [] ?_
      simp [tx, abin_seql, abin_sneq]
      refine callK tz ?_
      simp [tx, abin_seql, abin_sneq]
      refine callK fw ?_
      simp [tx, abin_seql, abin_sneq]
      refine WS_cond (t := true) (by simp [tx, abin_seql, abin_sneq]) (fun _ => ?_) (fun h => by cases h)
      refine WS_seq ?_
      refine WS_reg [] ?_
      simp [tx, abin_seql, abin_sneq]
      refine callK tz ?_
      simp [tx, abin_seql, abin_sneq]
      refine WS_ret ?_
      simp [tx, abin_seql, abin_sneq]
  | true =>
    obtain ⟨hb, hl⟩ := hlen hf
    rw [hf] at fw
    have p2 := zparse (zT x) hl
    rw [hb] at p2
    obtain ⟨T, hT⟩ : ∃ T, T = zT x := ⟨_, rfl⟩
    rw [← hT] at t1 p2
    cases hp : zP s with
    | none =>
      rw [hp, zPR, Z_eq] at p1
      refine WS_seq ?_
      refine WS_reg [] ?_
      simp [tx]
      refine WS_seq ?_
      refine WS_reg [] ?_
      simp [tx]
      refine callK aw ?_
      simp [tx]
      refine WS_seq ?_
      refine WS_reg [] ?_
      simp [tx]
      refine callK p1 ?_
      simp [tx]
      refine WS_seq ?_
      refine WS_reg [] ?_
      simp [tx]
      refine callK zo ?_
      simp [tx]
      refine callK sm ?_
      simp [tx]
      refine WS_seq ?_
      refine WS_seq ?_
      refine WS_reg [] ?_
      simp [tx]
      refine callK fw ?_
      simp [tx]
      refine WS_cond (t := false) (by simp [tx]) (fun h => by cases h) (fun _ => ?_)
      refine WS_skip ?_
      simp [tx]
      refine WS_seq ?_
      refine WS_reg [] ?_
      simp [tx]
      refine callK t1 ?_
      simp [tx]
      refine callK p2 ?_
      simp [tx]
      refine WS_seq ?_
      refine WS_regD [] ?_
      simp [tx]
      refine callD nm rfl ?_
      simp [tx]
      refine callD e1 rfl ?_
      simp [tx]
      refine ⟨rfl, ?_⟩
      refine WS_ret ?_
      simp [tx]
    | some z =>
      rw [hp, zPR] at p1
      have hz := zP_len hp
      have tz := ztext (isZ_Z (z := z) (k := 4096) hz) (by omega)
      rw [zP_inv hp] at tz
      refine WS_seq ?_
      refine WS_reg [] ?_
      simp [tx, abin_seql, abin_sneq]
      refine WS_seq ?_
      refine WS_reg [] ?_
      simp [tx, abin_seql, abin_sneq]
      refine callK aw ?_
      simp [tx, abin_seql, abin_sneq]
      refine WS_seq ?_
      refine WS_reg [] ?_
      simp [tx, abin_seql, abin_sneq]
      refine callK p1 ?_
      simp [tx, abin_seql, abin_sneq]
      refine WS_seq ?_
      refine WS_reg [] ?_
      simp [tx, abin_seql, abin_sneq]
      refine callK zo ?_
      simp [tx, abin_seql, abin_sneq]
      refine callK sm ?_
      simp [tx, abin_seql, abin_sneq]
      refine WS_seq ?_
      refine WS_seq ?_
      refine WS_reg [] ?_
      simp [tx, abin_seql, abin_sneq]
      refine callK tz ?_
      simp [tx, abin_seql, abin_sneq]
      refine callK fw ?_
      simp [tx, abin_seql, abin_sneq]
      refine WS_cond (t := false) (by simp [tx, abin_seql, abin_sneq]) (fun h => by cases h) (fun _ => ?_)
      refine WS_skip ?_
      simp [tx, abin_seql, abin_sneq]
      refine WS_seq ?_
      refine WS_reg [] ?_
      simp [tx, abin_seql, abin_sneq]
      refine callK t1 ?_
      simp [tx, abin_seql, abin_sneq]
      refine callK p2 ?_
      simp [tx, abin_seql, abin_sneq]
      refine WS_seq ?_
      refine WS_regD [] ?_
      simp [tx, abin_seql, abin_sneq]
      refine callD nm rfl ?_
      simp [tx, abin_seql, abin_sneq]
      refine callD e1 rfl ?_
      simp [tx, abin_seql, abin_sneq]
      refine ⟨rfl, ?_⟩
      refine WS_ret ?_
      simp [tx, abin_seql, abin_sneq]
end Go.Vw
namespace Go.Vw
open Go.Proofs

attribute [local simp] RunL_cons RunL_nil AOp_none AOp_some acK_v acK_call agK_tt agK_ff agK_tf agK_ft agK_tup agK_i aop aun St.ev St.heap St.put thenQ blockQ upd_apply S0 argSlot lowV V.cells V.isAgg V.fits V.part partOk plains St.ret retSV svOf svsOf retQ retP retAll retOne uL_length uL_get? uL_get St.elems retH ownIdx ownAt
attribute [local simp] RunD_none RunD_some RunD_nil RunE_any acD_v acD_call agD_tt agD_ff agD_tf agD_ft agD_tup entsOf svref SO.opds SO.writes SO.makes callEnt pureSV pureOf RV.isOwn
attribute [local simp] abin_add abin_sub abin_mul abin_quo abin_rem abin_eql abin_neq abin_lss abin_leq abin_gtr abin_geq
attribute [local simp] uL_snoc uL_set uL_take uL_drop uL_append uL_replicate uL_nil
attribute [local simp] acK_callG acD_callG St.giv gsSV gvSV retEnts ownEnts SO.still
attribute [local simp] S0G argSlotG givSV retQG retPG retAllG retOneG HObj.width V.scalar trimQ V.byte
attribute [local simp] zv V.fits fillOk fillV Z_eq
set_option maxHeartbeats 1000000 in
theorem law_ZintGcds (n1 n2 : Bool) (l1 l2 : List Nat) (h1 : ZW (2 ^ 24) l1) (h2 : ZW (2 ^ 24) l2) :
    Spec Try.prog f_law02_ZintGcds [zv n1 l1, zv n2 l2] (· = [.pure (.b true)]) := by
  have ia := isZ_zv (n := n1) h1
  have ib := isZ_zv (n := n2) h2
  have fw : Spec Try.prog f_law02_few [.i .i64 8, .sl (some 2) [zv n1 l1, zv n2 l2]] (· = [.pure (.b (fewB 8 [(n1, l1), (n2, l2)]))]) := few2_two 8 (by omega) n1 n2 l1 l2
  have q1 := ia.zlen
  have q2 := ib.zlen
  have b1 := zbezout ia ib (by omega)
  have b2 := rbezout ia ib (by omega)
  have gd := zgcd ia ib (by omega)
  obtain ⟨x, hx⟩ : ∃ x, x = zi n1 l1 := ⟨_, rfl⟩
  obtain ⟨y, hy⟩ : ∃ x, x = zi n2 l2 := ⟨_, rfl⟩
  rw [← hx] at b1 b2 gd q1
  rw [← hy] at b1 b2 gd q2
  have gl : zlen (Int.gcd x y : Int) ≤ 2 ^ 24 + 1 := by
    have h := bezI_first (A := x.natAbs) (B := y.natAbs) (by omega) (by omega)
    have hg := (bezG_ends x y).g
    by_cases h0 : x = 0
    · subst h0; rw [Int.gcd_zero_left]; exact Nat.le_trans (zlen_le (by simp)) (Nat.le_trans q2 (by omega))
    · have := Int.gcd_le_natAbs_left (b := y) h0
      exact Nat.le_trans (zlen_le (by simpa using this)) (Nat.le_trans q1 (by omega))
  have s1 := same2 (Int.gcd x y : Int) (by omega)
  have s2 := same2 (bezS x y) (by have := bezS_len (a := x) (b := y) q2; omega)
  have s3 := same2 (bezT x y) (by have := bezT_len (a := x) (b := y) q1; omega)
  rw [bezR] at b1 b2
  obtain ⟨g, hg⟩ : ∃ g : Int, g = (Int.gcd x y : Int) := ⟨_, rfl⟩
  rw [← hg] at b1 b2 gd s1
  have aw := awake2
  refine spec_at Try.func18 ok_law02_ZintGcds [] rfl (by simp) ?_
  unfold sc_law02_ZintGcds
  cases hf : fewB 8 [(n1, l1), (n2, l2)] with
  | false =>
    rw [hf] at fw
    refine WS_seq ?_
    refine WS_reg [] ?_
    simp
    refine WS_seq ?_
    refine WS_reg [] ?_
    simp
    refine callK aw ?_
    simp
    refine WS_seq ?_
    refine WS_seq ?_
    refine WS_reg [] ?_
    simp
    refine callK fw ?_
    simp
    refine WS_cond (t := true) (by simp) (fun _ => ?_) (fun h => by cases h)
    refine WS_seq ?_
    refine WS_reg [] ?_
    simp
    refine WS_ret ?_
    simp
  | true =>
    rw [hf] at fw
    refine WS_seq ?_
    refine WS_reg [] ?_
    simp
    refine WS_seq ?_
    refine WS_reg [] ?_
    simp
    refine callK aw ?_
    simp
    refine WS_seq ?_
    refine WS_seq ?_
    refine WS_reg [] ?_
    simp
    refine callK fw ?_
    simp
    refine WS_cond (t := false) (by simp) (fun h => by cases h) (fun _ => ?_)
    refine WS_skip ?_
    simp
    refine WS_seq ?_
    refine WS_reg [] ?_
    simp
    refine callK b1 ?_
    simp
    refine WS_seq ?_
    refine WS_reg [] ?_
    simp
    refine callK b2 ?_
    simp
    refine WS_seq ?_
    refine WS_regD [] ?_
    simp
    refine callD s1 rfl ?_
    simp
    refine callD s2 rfl ?_
    simp
    refine callD s3 rfl ?_
    simp
    refine callD gd rfl ?_
    simp
    refine callD s1 rfl ?_
    simp
    refine ⟨rfl, ?_⟩
    refine WS_ret ?_
    simp

theorem same2_sgn {x y : Int} (h : zn x ≠ zn y) : Spec Try.prog f_law02_same [Z x, Z y] (· = [.pure (.b false)]) := by
  have sm : Spec Try.prog f_ref02_Same [Z x, Z y] (· = [.pure (.b false)]) := by
    have h' : (zn x == zn y) = false := by simpa using h
    refine spec_at Try.func116 ok_ref02_Same [] rfl (by simp) ?_
    unfold sc_ref02_Same
    refine WS_seq ?_
    refine WS_reg [] ?_
    simp [h']
    refine WS_seq ?_
    refine WS_reg [] ?_
    simp [h']
    refine WS_ret ?_
    simp [h']
  refine spec_at Try.func62 ok_law02_same [] rfl (by simp) ?_
  unfold sc_law02_same
  refine WS_seq ?_
  refine WS_reg [] ?_
  simp
  refine WS_seq ?_
  refine WS_reg [] ?_
  simp
  refine callK sm ?_
  simp
  refine WS_ret ?_
  simp

set_option maxHeartbeats 2000000 in
theorem law_ZintDivisor (n1 n2 n3 : Bool) (l1 l2 l3 : List Nat) (h1 : ZW (2 ^ 24) l1) (h2 : ZW (2 ^ 24) l2) (h3 : ZW (2 ^ 24) l3) :
    Spec Try.prog f_law02_ZintDivisor [zv n1 l1, zv n2 l2, zv n3 l3] (· = [.pure (.b true)]) := by
  have ia := isZ_zv (n := n1) h1
  have ib := isZ_zv (n := n2) h2
  have ic := isZ_zv (n := n3) h3
  have fw : Spec Try.prog f_law02_few [.i .i64 10, .sl (some 2) [zv n1 l1, zv n2 l2, zv n3 l3]] (· = [.pure (.b (fewB 10 [(n1, l1), (n2, l2), (n3, l3)]))]) := few2_three 10 (by omega) n1 n2 n3 l1 l2 l3
  have q1 := ia.zlen
  have q2 := ib.zlen
  have q3 := ic.zlen
  obtain ⟨x, hx⟩ : ∃ x, x = zi n1 l1 := ⟨_, rfl⟩
  obtain ⟨y, hy⟩ : ∃ x, x = zi n2 l2 := ⟨_, rfl⟩
  obtain ⟨c, hc⟩ : ∃ x, x = zi n3 l3 := ⟨_, rfl⟩
  rw [← hx] at ia q1
  rw [← hy] at ib q2
  rw [← hc] at ic q3
  have b1 := zbezout ia ib (by omega)
  have gd := zgcd ib ia (by omega)
  rw [Int.gcd_comm] at gd
  have gl := gcd_len q1 q2
  have gc := gcd_len (x := x * c) (y := y * c) (k := 2 ^ 25) (by have := zlen_mul x c; omega) (by have := zlen_mul y c; omega)
  have sl := bezS_len (a := x) (b := y) q2
  have tl := bezT_len (a := x) (b := y) q1
  have be := bez_eq x y
  have hgc : (Int.gcd (x * c) (y * c) : Int) = (Int.gcd x y : Int) * (c.natAbs : Int) := by rw [Int.gcd_mul_right]; simp
  have hz0 : Int.gcd x y = 0 → x = 0 ∧ y = 0 := fun h => by rwa [Int.gcd_eq_zero_iff] at h
  have dv1 : x % (Int.gcd x y : Int) = 0 := Int.emod_eq_zero_of_dvd (Int.gcd_dvd_left _ _)
  have dv2 : y % (Int.gcd x y : Int) = 0 := Int.emod_eq_zero_of_dvd (Int.gcd_dvd_right _ _)
  have gp : (0 : Int) ≤ (Int.gcd x y : Int) := by omega
  rw [bezR] at b1
  obtain ⟨s, hs⟩ : ∃ s, s = bezS x y := ⟨_, rfl⟩
  obtain ⟨t, ht⟩ : ∃ t, t = bezT x y := ⟨_, rfl⟩
  rw [← hs] at b1 sl be
  rw [← ht] at b1 tl be
  have mu1 := zmul (isZ_of (x := s) (k := 2 ^ 25) (by omega)) (ia.mono (by omega)) (by omega)
  have mu2 := zmul (isZ_of (x := t) (k := 2 ^ 25) (by omega)) (ib.mono (by omega)) (by omega)
  have ad := zadd (isZ_of (x := s * x) (k := 2 ^ 26) (by have := zlen_mul s x; omega)) (isZ_of (x := t * y) (k := 2 ^ 26) (by have := zlen_mul t y; omega)) (by omega)
  rw [← be] at ad
  have mc1 := zmul ia ic (by omega)
  have mc2 := zmul ib ic (by omega)
  have gd2 := zgcd (isZ_of (x := x * c) (k := 2 ^ 26) (by have := zlen_mul x c; omega)) (isZ_of (x := y * c) (k := 2 ^ 26) (by have := zlen_mul y c; omega)) (by omega)
  have hz : (Int.gcd x y : Int) = 0 → x = 0 ∧ y = 0 := fun h => hz0 (by omega)
  obtain ⟨h, hh⟩ : ∃ g : Int, g = (Int.gcd (x * c) (y * c) : Int) := ⟨_, rfl⟩
  rw [← hh] at gd2 hgc gc
  obtain ⟨g, hg⟩ : ∃ g : Int, g = (Int.gcd x y : Int) := ⟨_, rfl⟩
  rw [← hg] at b1 gd gl ad hgc hz dv1 dv2 gp
  have sm := same2 g (by omega)
  have sg := zsign (isZ_of (x := g) (k := 2 ^ 24) gl) (by omega)
  have aw := awake2
  have ng0 : ¬ g.sign < 0 := by rw [Int.sign_neg_iff]; omega
  refine spec_at Try.func19 ok_law02_ZintDivisor [] rfl (by simp) ?_
  unfold sc_law02_ZintDivisor
  cases hf : fewB 10 [(n1, l1), (n2, l2), (n3, l3)] with
  | false =>
    rw [hf] at fw
    refine WS_seq ?_
    refine WS_reg [] ?_
    simp
    refine WS_seq ?_
    refine WS_reg [] ?_
    simp
    refine callK aw ?_
    simp
    refine WS_seq ?_
    refine WS_seq ?_
    refine WS_reg [] ?_
    simp
    refine callK fw ?_
    simp
    refine WS_cond (t := true) (by simp) (fun _ => ?_) (fun h => by cases h)
    refine WS_seq ?_
    refine WS_reg [] ?_
    simp
    refine WS_ret ?_
    simp
  | true =>
    rw [hf] at fw
    by_cases h0 : g = 0
    · obtain ⟨rx, ry⟩ := hz h0
      have sx := zsign ia (by omega)
      have sy := zsign ib (by omega)
      rw [rx, Int.sign_zero] at sx
      rw [ry, Int.sign_zero] at sy
      subst h0
      rw [Int.sign_zero] at sg
      refine WS_seq ?_
      refine WS_reg [] ?_
      simp
      refine WS_seq ?_
      refine WS_reg [] ?_
      simp
      refine callK aw ?_
      simp
      refine WS_seq ?_
      refine WS_seq ?_
      refine WS_reg [] ?_
      simp
      refine callK fw ?_
      simp
      refine WS_cond (t := false) (by simp) (fun h => by cases h) (fun _ => ?_)
      refine WS_skip ?_
      simp
      refine WS_seq ?_
      refine WS_reg [] ?_
      simp
      refine callK b1 ?_
      simp
      refine WS_seq ?_
      refine WS_seq ?_
      refine WS_regD [] ?_
      simp
      refine callD sg rfl ?_
      simp
      refine callD mu1 rfl ?_
      simp
      refine callD mu2 rfl ?_
      simp
      refine callD ad rfl ?_
      simp
      refine callD sm rfl ?_
      simp
      refine callD gd rfl ?_
      simp
      refine callD sm rfl ?_
      simp
      refine ⟨rfl, ?_⟩
      refine WS_cond (t := false) (by simp) (fun h => by cases h) (fun _ => ?_)
      refine WS_skip ?_
      simp
      refine WS_seq ?_
      refine WS_seq ?_
      refine WS_reg [] ?_
      simp
      refine callK sg ?_
      simp
      refine WS_cond (t := true) (by simp) (fun _ => ?_) (fun h => by cases h)
      refine WS_seq ?_
      refine WS_reg [] ?_
      simp
      refine callK sx ?_
      simp
      refine callK sy ?_
      simp
      refine WS_ret ?_
      simp
    · have gpos : 0 < g := by omega
      rw [sign_gt gpos] at sg
      have x1 := zexact ia (isZ_of (x := g) (k := 2 ^ 24) gl) (by omega)
      have x2 := zexact ib (isZ_of (x := g) (k := 2 ^ 24) gl) (by omega)
      rw [exactR, if_neg h0, if_pos dv1] at x1
      rw [exactR, if_neg h0, if_pos dv2] at x2
      have mk := zmul (isZ_of (x := g) (k := 2 ^ 24) gl) ic (by omega)
      by_cases hc0 : 0 ≤ c
      · have e : h = g * c := by rw [hgc]; congr 1; omega
        rw [← e] at mk
        have s2 := same2 h (by omega)
        refine WS_seq ?_
        refine WS_reg [] ?_
        simp
        refine WS_seq ?_
        refine WS_reg [] ?_
        simp
        refine callK aw ?_
        simp
        refine WS_seq ?_
        refine WS_seq ?_
        refine WS_reg [] ?_
        simp
        refine callK fw ?_
        simp
        refine WS_cond (t := false) (by simp) (fun h => by cases h) (fun _ => ?_)
        refine WS_skip ?_
        simp
        refine WS_seq ?_
        refine WS_reg [] ?_
        simp
        refine callK b1 ?_
        simp
        refine WS_seq ?_
        refine WS_seq ?_
        refine WS_regD [] ?_
        simp
        refine callD sg rfl ?_
        simp
        refine callD mu1 rfl ?_
        simp
        refine callD mu2 rfl ?_
        simp
        refine callD ad rfl ?_
        simp
        refine callD sm rfl ?_
        simp
        refine callD gd rfl ?_
        simp
        refine callD sm rfl ?_
        simp
        refine ⟨rfl, ?_⟩
        refine WS_cond (t := false) (by simp) (fun h => by cases h) (fun _ => ?_)
        refine WS_skip ?_
        simp
        refine WS_seq ?_
        refine WS_seq ?_
        refine WS_reg [] ?_
        simp
        refine callK sg ?_
        simp
        refine WS_cond (t := false) (by simp) (fun h => by cases h) (fun _ => ?_)
        refine WS_skip ?_
        simp
        refine WS_seq ?_
        refine WS_reg [] ?_
        simp
        refine callK x1 ?_
        simp
        refine WS_seq ?_
        refine WS_reg [] ?_
        simp
        refine callK x2 ?_
        simp
        refine WS_seq ?_
        refine WS_regD [] ?_
        simp
        refine callD mc1 rfl ?_
        simp
        refine callD mc2 rfl ?_
        simp
        refine callD gd2 rfl ?_
        simp
        refine ⟨rfl, ?_⟩
        refine WS_seq ?_
        refine WS_reg [] ?_
        simp
        refine callK mk ?_
        simp
        refine WS_seq ?_
        refine WS_regD [] ?_
        simp
        refine callD s2 rfl ?_
        simp
        refine ⟨rfl, ?_⟩
        refine WS_ret ?_
        simp
      · have e : h = -(g * c) := by rw [hgc, show (c.natAbs : Int) = -c by omega, Int.mul_neg]
        obtain ⟨k, hk⟩ : ∃ k, k = g * c := ⟨_, rfl⟩
        rw [← hk] at mk e
        have kneg : k < 0 := by rw [hk]; exact Int.mul_neg_of_pos_of_neg gpos (by omega)
        have s2 := same2_sgn (x := h) (y := k) (by rw [zn_false (by omega), zn_true kneg]; simp)
        have kl : zlen k ≤ 2 ^ 25 := by rw [show k = -h by omega, zlen_neg]; exact gc
        have ng := zneg (isZ_of (x := k) (k := 2 ^ 25) kl) (by omega)
        rw [← e] at ng
        have s3 := same2 h (by omega)
        refine WS_seq ?_
        refine WS_reg [] ?_
        simp
        refine WS_seq ?_
        refine WS_reg [] ?_
        simp
        refine callK aw ?_
        simp
        refine WS_seq ?_
        refine WS_seq ?_
        refine WS_reg [] ?_
        simp
        refine callK fw ?_
        simp
        refine WS_cond (t := false) (by simp) (fun h => by cases h) (fun _ => ?_)
        refine WS_skip ?_
        simp
        refine WS_seq ?_
        refine WS_reg [] ?_
        simp
        refine callK b1 ?_
        simp
        refine WS_seq ?_
        refine WS_seq ?_
        refine WS_regD [] ?_
        simp
        refine callD sg rfl ?_
        simp
        refine callD mu1 rfl ?_
        simp
        refine callD mu2 rfl ?_
        simp
        refine callD ad rfl ?_
        simp
        refine callD sm rfl ?_
        simp
        refine callD gd rfl ?_
        simp
        refine callD sm rfl ?_
        simp
        refine ⟨rfl, ?_⟩
        refine WS_cond (t := false) (by simp) (fun h => by cases h) (fun _ => ?_)
        refine WS_skip ?_
        simp
        refine WS_seq ?_
        refine WS_seq ?_
        refine WS_reg [] ?_
        simp
        refine callK sg ?_
        simp
        refine WS_cond (t := false) (by simp) (fun h => by cases h) (fun _ => ?_)
        refine WS_skip ?_
        simp
        refine WS_seq ?_
        refine WS_reg [] ?_
        simp
        refine callK x1 ?_
        simp
        refine WS_seq ?_
        refine WS_reg [] ?_
        simp
        refine callK x2 ?_
        simp
        refine WS_seq ?_
        refine WS_regD [] ?_
        simp
        refine callD mc1 rfl ?_
        simp
        refine callD mc2 rfl ?_
        simp
        refine callD gd2 rfl ?_
        simp
        refine ⟨rfl, ?_⟩
        refine WS_seq ?_
        refine WS_reg [] ?_
        simp
        refine callK mk ?_
        simp
        refine WS_seq ?_
        refine WS_regD [] ?_
        simp
        refine callD s2 rfl ?_
        simp
        refine callD ng rfl ?_
        simp
        refine callD s3 rfl ?_
        simp
        refine ⟨rfl, ?_⟩
        refine WS_ret ?_
        simp

end Go.Vw
namespace Go.Vw
open Go.Proofs

attribute [local simp] RunL_cons RunL_nil AOp_none AOp_some acK_v acK_call agK_tt agK_ff agK_tf agK_ft agK_tup agK_i aop aun St.ev St.heap St.put thenQ blockQ upd_apply S0 argSlot lowV V.cells V.isAgg V.fits V.part partOk plains St.ret retSV svOf svsOf retQ retP retAll retOne uL_length uL_get? uL_get St.elems retH ownIdx ownAt
attribute [local simp] RunD_none RunD_some RunD_nil RunE_any acD_v acD_call agD_tt agD_ff agD_tf agD_ft agD_tup entsOf svref SO.opds SO.writes SO.makes callEnt pureSV pureOf RV.isOwn
attribute [local simp] abin_add abin_sub abin_mul abin_quo abin_rem abin_eql abin_neq abin_lss abin_leq abin_gtr abin_geq
attribute [local simp] uL_snoc uL_set uL_take uL_drop uL_append uL_replicate uL_nil
attribute [local simp] acK_callG acD_callG St.giv gsSV gvSV retEnts ownEnts SO.still
attribute [local simp] S0G argSlotG givSV retQG retPG retAllG retOneG HObj.width V.scalar trimQ V.byte
attribute [local simp] zv V.fits fillOk fillV Z_eq
set_option maxHeartbeats 1000000 in
theorem law_ZintPowers (n1 : Bool) (l1 : List Nat) (h1 : ZW (2 ^ 24) l1) (n : Int) (hn1 : -9223372036854775808 ≤ n) (hn2 : n ≤ 9223372036854775807) (k : Int) (hk1 : -9223372036854775808 ≤ k) (hk2 : k ≤ 9223372036854775807) :
    Spec Try.prog f_law02_ZintPowers [zv n1 l1, .i .i64 n, .i .i64 k] (· = [.pure (.b true)]) := by
  have fw : Spec Try.prog f_law02_few [.i .i64 4, .sl (some 2) [zv n1 l1]] (· = [.pure (.b (fewB 4 [(n1, l1)]))]) := few2_one 4 (by omega) n1 l1
  have aw := awake2
  have zo := zof (-1) (by omega) (by omega)
  have rt := zroot (isZ_of (x := -1) (k := 1) (zlen_small (by decide))) (by omega) 2 (by omega) (by omega)
  have e0 : rootR (-1) 2 = [.pure (Z 0), .pure (.i .i64 1)] := rfl
  rw [e0] at rt
  refine spec_at Try.func20 ok_law02_ZintPowers [] rfl (by simp) ?_
  unfold sc_law02_ZintPowers
  cases hf : fewB 4 [(n1, l1)] with
  | false =>
    rw [hf] at fw
    refine WS_seq ?_
    refine WS_reg [] ?_
    simp
    refine WS_seq ?_
    refine WS_reg [] ?_
    simp
    refine callK aw ?_
    simp
    refine WS_seq ?_
    refine WS_reg [] ?_
    simp
    refine callK zo ?_
    simp
    refine callK rt ?_
    simp
    refine WS_seq ?_
    refine WS_seq ?_
    refine WS_reg [] ?_
    simp
    refine callK fw ?_
    simp
    refine WS_cond (t := true) (by simp) (fun _ => ?_) (fun h => by cases h)
    refine WS_seq ?_
    refine WS_reg [] ?_
    simp
    refine WS_ret ?_
    simp
  | true =>
    rw [hf] at fw
    simp only [fewB, List.all_cons, List.all_nil, Bool.and_true, decide_eq_true_eq] at hf
    have ia := isZ_zv (n := n1) (l := l1) (k := 4) ⟨h1.dl, hf⟩
    have q1 := ia.zlen
    obtain ⟨x, hx⟩ : ∃ x, x = zi n1 l1 := ⟨_, rfl⟩
    rw [← hx] at ia q1
    have nm := znorm ia (by omega)
    have f0 : Spec Try.prog f_law02_few [.i .i64 0, .sl (some 2) [zv (zn x) (zl x)]] (· = [.pure (.b (fewB 0 [(zn x, zl x)]))]) := few2_one 0 (by omega) _ _
    have p1 := zpow ia (by omega) n hn1 hn2
    have p2 := rpow ia (by omega) n hn1 hn2
    have r1 := zroot ia (by omega) k hk1 hk2
    have r2 := rroot ia (by omega) k hk1 hk2
    obtain ⟨p, e, hp, pl⟩ := powR_ex x n
    obtain ⟨r, e', hr, rl⟩ := rootR_ex q1 k
    rw [hp] at p1 p2
    rw [hr] at r1 r2
    have s1 := same2 p (by omega)
    have s2 := same2 r (by omega)
    by_cases c8 : 80 < n
    · by_cases c6 : n ≤ 65536
      · cases hf0 : fewB 0 [(zn x, zl x)] with
        | false =>
          rw [hf0] at f0
          refine WS_seq ?_
          refine WS_reg [] ?_
          simp [c8, c6]
          refine WS_seq ?_
          refine WS_reg [] ?_
          simp [c8, c6]
          refine callK aw ?_
          simp [c8, c6]
          refine WS_seq ?_
          refine WS_reg [] ?_
          simp [c8, c6]
          refine callK zo ?_
          simp [c8, c6]
          refine callK rt ?_
          simp [c8, c6]
          refine WS_seq ?_
          refine WS_seq ?_
          refine WS_reg [] ?_
          simp [c8, c6]
          refine callK fw ?_
          simp [c8, c6]
          refine callK nm ?_
          simp [c8, c6]
          refine callK f0 ?_
          simp [c8, c6]
          refine WS_cond (t := true) (by simp [c8, c6]) (fun _ => ?_) (fun h => by cases h)
          refine WS_seq ?_
          refine WS_reg [] ?_
          simp [c8, c6]
          refine WS_ret ?_
          simp [c8, c6]
        | true =>
          rw [hf0] at f0
          refine WS_seq ?_
          refine WS_reg [] ?_
          simp [c8, c6]
          refine WS_seq ?_
          refine WS_reg [] ?_
          simp [c8, c6]
          refine callK aw ?_
          simp [c8, c6]
          refine WS_seq ?_
          refine WS_reg [] ?_
          simp [c8, c6]
          refine callK zo ?_
          simp [c8, c6]
          refine callK rt ?_
          simp [c8, c6]
          refine WS_seq ?_
          refine WS_seq ?_
          refine WS_reg [] ?_
          simp [c8, c6]
          refine callK fw ?_
          simp [c8, c6]
          refine callK nm ?_
          simp [c8, c6]
          refine callK f0 ?_
          simp [c8, c6]
          refine WS_cond (t := false) (by simp [c8, c6]) (fun h => by cases h) (fun _ => ?_)
          refine WS_skip ?_
          simp [c8, c6]
          refine WS_seq ?_
          refine WS_reg [] ?_
          simp [c8, c6]
          refine callK p1 ?_
          simp [c8, c6]
          refine WS_seq ?_
          refine WS_reg [] ?_
          simp [c8, c6]
          refine callK p2 ?_
          simp [c8, c6]
          refine WS_seq ?_
          refine WS_reg [] ?_
          simp [c8, c6]
          refine callK r1 ?_
          simp [c8, c6]
          refine WS_seq ?_
          refine WS_reg [] ?_
          simp [c8, c6]
          refine callK r2 ?_
          simp [c8, c6]
          refine WS_seq ?_
          refine WS_reg [] ?_
          simp [c8, c6]
          refine callK s1 ?_
          simp [c8, c6]
          refine callK s2 ?_
          simp [c8, c6]
          refine WS_ret ?_
          simp [c8, c6]
      · refine WS_seq ?_
        refine WS_reg [] ?_
        simp [c8, c6]
        refine WS_seq ?_
        refine WS_reg [] ?_
        simp [c8, c6]
        refine callK aw ?_
        simp [c8, c6]
        refine WS_seq ?_
        refine WS_reg [] ?_
        simp [c8, c6]
        refine callK zo ?_
        simp [c8, c6]
        refine callK rt ?_
        simp [c8, c6]
        refine WS_seq ?_
        refine WS_seq ?_
        refine WS_reg [] ?_
        simp [c8, c6]
        refine callK fw ?_
        simp [c8, c6]
        refine WS_cond (t := false) (by simp [c8, c6]) (fun h => by cases h) (fun _ => ?_)
        refine WS_skip ?_
        simp [c8, c6]
        refine WS_seq ?_
        refine WS_reg [] ?_
        simp [c8, c6]
        refine callK p1 ?_
        simp [c8, c6]
        refine WS_seq ?_
        refine WS_reg [] ?_
        simp [c8, c6]
        refine callK p2 ?_
        simp [c8, c6]
        refine WS_seq ?_
        refine WS_reg [] ?_
        simp [c8, c6]
        refine callK r1 ?_
        simp [c8, c6]
        refine WS_seq ?_
        refine WS_reg [] ?_
        simp [c8, c6]
        refine callK r2 ?_
        simp [c8, c6]
        refine WS_seq ?_
        refine WS_reg [] ?_
        simp [c8, c6]
        refine callK s1 ?_
        simp [c8, c6]
        refine callK s2 ?_
        simp [c8, c6]
        refine WS_ret ?_
        simp [c8, c6]
    · refine WS_seq ?_
      refine WS_reg [] ?_
      simp [c8]
      refine WS_seq ?_
      refine WS_reg [] ?_
      simp [c8]
      refine callK aw ?_
      simp [c8]
      refine WS_seq ?_
      refine WS_reg [] ?_
      simp [c8]
      refine callK zo ?_
      simp [c8]
      refine callK rt ?_
      simp [c8]
      refine WS_seq ?_
      refine WS_seq ?_
      refine WS_reg [] ?_
      simp [c8]
      refine callK fw ?_
      simp [c8]
      refine WS_cond (t := false) (by simp [c8]) (fun h => by cases h) (fun _ => ?_)
      refine WS_skip ?_
      simp [c8]
      refine WS_seq ?_
      refine WS_reg [] ?_
      simp [c8]
      refine callK p1 ?_
      simp [c8]
      refine WS_seq ?_
      refine WS_reg [] ?_
      simp [c8]
      refine callK p2 ?_
      simp [c8]
      refine WS_seq ?_
      refine WS_reg [] ?_
      simp [c8]
      refine callK r1 ?_
      simp [c8]
      refine WS_seq ?_
      refine WS_reg [] ?_
      simp [c8]
      refine callK r2 ?_
      simp [c8]
      refine WS_seq ?_
      refine WS_reg [] ?_
      simp [c8]
      refine callK s1 ?_
      simp [c8]
      refine callK s2 ?_
      simp [c8]
      refine WS_ret ?_
      simp [c8]

set_option maxHeartbeats 2000000 in
theorem law_ZintRoots (n1 : Bool) (l1 : List Nat) (h1 : ZW (2 ^ 24) l1) (k n m : Int) (hk1 : -9223372036854775808 ≤ k) (hk2 : k ≤ 9223372036854775807) :
    Spec Try.prog f_law02_ZintRoots [zv n1 l1, .i .i64 k, .i .i64 n, .i .i64 m] (· = [.pure (.b true)]) := by
  have fw : Spec Try.prog f_law02_few [.i .i64 6, .sl (some 2) [zv n1 l1]] (· = [.pure (.b (fewB 6 [(n1, l1)]))]) := few2_one 6 (by omega) n1 l1
  have aw := awake2
  have ak := abin_and15 k
  have an := abin_and15 n
  have am := abin_and15 m
  obtain ⟨q, hq⟩ := Int.eq_ofNat_of_zero_le (Int.emod_nonneg k (show (16 : Int) ≠ 0 by omega))
  obtain ⟨i, hi⟩ := Int.eq_ofNat_of_zero_le (Int.emod_nonneg n (show (16 : Int) ≠ 0 by omega))
  obtain ⟨j, hj⟩ := Int.eq_ofNat_of_zero_le (Int.emod_nonneg m (show (16 : Int) ≠ 0 by omega))
  have bq : q < 16 := by omega
  have bi : i < 16 := by omega
  have bj : j < 16 := by omega
  rw [hq] at ak
  rw [hi] at an
  rw [hj] at am
  clear hq hi hj
  obtain ⟨s, hs⟩ : ∃ s, s = i + j := ⟨_, rfl⟩
  obtain ⟨r, hr⟩ : ∃ r, r = q + 1 := ⟨_, rfl⟩
  have es : IntKind.i64.wrap ((i : Int) + (j : Int)) = (s : Int) := by rw [Go.IntWalk.i64_in _ (by omega)]; omega
  have er : IntKind.i64.wrap (1 + (q : Int)) = (r : Int) := by rw [Go.IntWalk.i64_in _ (by omega)]; omega
  refine spec_at Try.func21 ok_law02_ZintRoots [] rfl (by simp) ?_
  unfold sc_law02_ZintRoots
  cases hf : fewB 6 [(n1, l1)] with
  | false =>
    rw [hf] at fw
    refine WS_seq ?_
    refine WS_reg [] ?_
    simp
    refine WS_seq ?_
    refine WS_reg [] ?_
    simp
    refine callK aw ?_
    simp
    refine WS_seq ?_
    refine WS_seq ?_
    refine WS_reg [] ?_
    simp
    refine callK fw ?_
    simp
    refine WS_cond (t := true) (by simp) (fun _ => ?_) (fun h => by cases h)
    refine WS_seq ?_
    refine WS_reg [] ?_
    simp
    refine WS_ret ?_
    simp
  | true =>
    rw [hf] at fw
    simp only [fewB, List.all_cons, List.all_nil, Bool.and_true, decide_eq_true_eq] at hf
    have ia := isZ_zv (n := n1) (l := l1) (k := 6) ⟨h1.dl, hf⟩
    have q1 := ia.zlen
    obtain ⟨x, hx⟩ : ∃ x, x = zi n1 l1 := ⟨_, rfl⟩
    rw [← hx] at ia q1
    obtain ⟨c, hc⟩ : ∃ c : Nat, c = 6 := ⟨_, rfl⟩
    have hbx : bl x.natAbs ≤ 64 * c := bl_le (by rw [Nat.pow_mul]; exact lt_zlen' (by omega))
    obtain ⟨E, hE⟩ : ∃ E : Nat, E = 64 * c := ⟨_, rfl⟩
    rw [← hE] at hbx
    have lp : ∀ a : Int, bl a.natAbs ≤ 400 → ∀ t, t ≤ 64 → zlen (a ^ t) ≤ 1000 := fun a ha t ht => by
      have h := Nat.mul_le_mul ha ht
      have := pow_len (x := a) (n := t) (k := 999) (by omega)
      omega
    have p1 := zpow ia (by omega) (i : Int) (by omega) (by omega)
    have p2 := zpow ia (by omega) (j : Int) (by omega) (by omega)
    have p3 := zpow ia (by omega) (s : Int) (by omega) (by omega)
    rw [powR_ok (by omega) (by omega)] at p1 p2 p3
    have mu := zmul (isZ_of (lp x (by omega) i (by omega))) (isZ_of (lp x (by omega) j (by omega))) (by omega)
    rw [← Int.pow_add, ← hs] at mu
    have s3 := same2 (x ^ s) (by have := lp x (by omega) s (by omega); omega)
    have sg := zsign ia (by omega)
    have r1 := zroot ia (by omega) (r : Int) (by omega) (by omega)
    by_cases c2 : x < 0
    · rw [sign_lt c2] at sg
      rw [rootR, if_pos (.inr (.inr c2))] at r1
      refine WS_seq ?_
      refine WS_reg [] ?_
      simp [an, am, ak, es, er]
      refine WS_seq ?_
      refine WS_reg [] ?_
      simp [an, am, ak, es, er]
      refine callK aw ?_
      simp [an, am, ak, es, er]
      refine WS_seq ?_
      refine WS_seq ?_
      refine WS_reg [] ?_
      simp [an, am, ak, es, er]
      refine callK fw ?_
      simp [an, am, ak, es, er]
      refine WS_cond (t := false) (by simp [an, am, ak, es, er]) (fun h => by cases h) (fun _ => ?_)
      refine WS_skip ?_
      simp [an, am, ak, es, er]
      refine WS_seq ?_
      refine WS_reg [] ?_
      simp [an, am, ak, es, er]
      refine WS_seq ?_
      refine WS_reg [] ?_
      simp [an, am, ak, es, er]
      refine WS_seq ?_
      refine WS_reg [] ?_
      simp [an, am, ak, es, er]
      refine callK p1 ?_
      simp [an, am, ak, es, er]
      refine WS_seq ?_
      refine WS_reg [] ?_
      simp [an, am, ak, es, er]
      refine callK p2 ?_
      simp [an, am, ak, es, er]
      refine WS_seq ?_
      refine WS_reg [] ?_
      simp [an, am, ak, es, er]
      refine callK p3 ?_
      simp [an, am, ak, es, er]
      refine WS_seq ?_
      refine WS_seq ?_
      refine WS_regD [] ?_
      simp [an, am, ak, es, er]
      refine callD mu rfl ?_
      simp [an, am, ak, es, er]
      refine callD s3 rfl ?_
      simp [an, am, ak, es, er]
      refine ⟨rfl, ?_⟩
      refine WS_cond (t := false) (by simp [an, am, ak, es, er]) (fun h => by cases h) (fun _ => ?_)
      refine WS_skip ?_
      simp [an, am, ak, es, er]
      refine WS_seq ?_
      refine WS_reg [] ?_
      simp [an, am, ak, es, er]
      refine WS_seq ?_
      refine WS_seq ?_
      refine WS_reg [] ?_
      simp [an, am, ak, es, er]
      refine callK sg ?_
      simp [an, am, ak, es, er]
      refine WS_cond (t := true) (by simp [an, am, ak, es, er]) (fun _ => ?_) (fun h => by cases h)
      refine WS_seq ?_
      refine WS_reg [] ?_
      simp [an, am, ak, es, er]
      refine callK r1 ?_
      simp [an, am, ak, es, er]
      refine WS_seq ?_
      refine WS_reg [] ?_
      simp [an, am, ak, es, er]
      refine WS_ret ?_
      simp [an, am, ak, es, er]
    · have c3 : ¬ x.sign < 0 := by rw [Int.sign_neg_iff]; exact c2
      rw [rootR, if_neg (by omega)] at r1
      obtain ⟨X, rfl⟩ := Int.eq_ofNat_of_zero_le (show 0 ≤ x by omega)
      have e1 : ((r : Int)).toNat = r := by omega
      have e2 : ((X : Int)).toNat = X := by omega
      rw [e1, e2] at r1
      rw [Int.natAbs_natCast] at hbx
      have r0 : 0 < r := by omega
      obtain ⟨f1, f2⟩ := iroot_facts X r0
      have ule := iroot_le X r0
      obtain ⟨u, hu⟩ : ∃ u, u = iroot X r := ⟨_, rfl⟩
      rw [← hu] at r1 f1 f2 ule
      have ul : zlen (u : Int) ≤ 6 := Nat.le_trans (zlen_le (by omega)) q1
      have bu : bl u ≤ E := bl_le (Nat.lt_of_le_of_lt ule (Nat.lt_of_lt_of_le (bl_facts X).1 (Nat.pow_le_pow_right (by omega) hbx)))
      have bu1 : bl (u + 1) ≤ E + 1 := bl_le (by
        have h1 := (bl_facts u).1
        have h2 : 2 ^ bl u ≤ 2 ^ E := Nat.pow_le_pow_right (by omega) bu
        rw [Nat.pow_succ 2 E]
        obtain ⟨K, hK⟩ : ∃ K, K = 2 ^ E := ⟨_, rfl⟩
        rw [← hK] at h2 ⊢
        omega)
      have l1' := zpow (isZ_of ul) (by omega) (r : Int) (by omega) (by omega)
      rw [powR_ok (by omega) (by rw [Int.natAbs_natCast]; omega)] at l1'
      have o1 := zof 1 (by omega) (by omega)
      have ad := zadd (isZ_of ul) (isZ_of (k := 6) (x := 1) (by have := zlen_one; omega)) (by omega)
      have hi := zpow (isZ_of (x := (u : Int) + 1) (k := 7) (by have := zlen_add (u : Int) 1; have := zlen_one; omega)) (by omega) (r : Int) (by omega) (by omega)
      rw [powR_ok (by omega) (by rw [show ((u : Int) + 1).natAbs = u + 1 by omega]; omega)] at hi
      have pp := zpow ia (by omega) (r : Int) (by omega) (by omega)
      rw [powR_ok (by omega) (by rw [Int.natAbs_natCast]; omega)] at pp
      have pl := lp (X : Int) (by rw [Int.natAbs_natCast]; omega) r (by omega)
      have rr := zroot (isZ_of pl) (by omega) (r : Int) (by omega) (by omega)
      have hXr : iroot (X ^ r) r = X := (iroot_of (Nat.le_refl _) (Nat.pow_lt_pow_left (by omega) (by omega)) r0).symm
      have hXr2 : rootR ((X : Int) ^ r) (r : Int) = [.pure (Z (X : Int)), .pure (.i .i64 0)] := by
        rw [← Int.natCast_pow, rootR, if_neg (by omega), show (((X ^ r : Nat) : Int)).toNat = X ^ r by omega, e1, hXr]
      rw [hXr2] at rr
      have c5 := zcmp (isZ_of (lp (u : Int) (by rw [Int.natAbs_natCast]; omega) r (by omega))) (ia.mono (by omega)) (by omega)
      have c6 := zcmp (isZ_of (lp ((u : Int) + 1) (by rw [show ((u : Int) + 1).natAbs = u + 1 by omega]; omega) r (by omega))) (ia.mono (by omega)) (by omega)
      have h5 : ((u : Int) ^ r - (X : Int)).sign ≤ 0 := by rw [← Int.natCast_pow, Int.sign_nonpos_iff]; omega
      have h6 : (0 : Int) < (((u : Int) + 1) ^ r - (X : Int)).sign := by
        rw [show ((u : Int) + 1) ^ r = (((u + 1) ^ r : Nat) : Int) by rw [Int.natCast_pow]; rfl, Int.sign_pos_iff]; omega
      have nm := znorm ia (by omega)
      have sm := same2 (X : Int) (by omega)
      refine WS_seq ?_
      refine WS_reg [] ?_
      simp [an, am, ak, es, er, c3, h5, h6]
      refine WS_seq ?_
      refine WS_reg [] ?_
      simp [an, am, ak, es, er, c3, h5, h6]
      refine callK aw ?_
      simp [an, am, ak, es, er, c3, h5, h6]
      refine WS_seq ?_
      refine WS_seq ?_
      refine WS_reg [] ?_
      simp [an, am, ak, es, er, c3, h5, h6]
      refine callK fw ?_
      simp [an, am, ak, es, er, c3, h5, h6]
      refine WS_cond (t := false) (by simp [an, am, ak, es, er, c3, h5, h6]) (fun h => by cases h) (fun _ => ?_)
      refine WS_skip ?_
      simp [an, am, ak, es, er, c3, h5, h6]
      refine WS_seq ?_
      refine WS_reg [] ?_
      simp [an, am, ak, es, er, c3, h5, h6]
      refine WS_seq ?_
      refine WS_reg [] ?_
      simp [an, am, ak, es, er, c3, h5, h6]
      refine WS_seq ?_
      refine WS_reg [] ?_
      simp [an, am, ak, es, er, c3, h5, h6]
      refine callK p1 ?_
      simp [an, am, ak, es, er, c3, h5, h6]
      refine WS_seq ?_
      refine WS_reg [] ?_
      simp [an, am, ak, es, er, c3, h5, h6]
      refine callK p2 ?_
      simp [an, am, ak, es, er, c3, h5, h6]
      refine WS_seq ?_
      refine WS_reg [] ?_
      simp [an, am, ak, es, er, c3, h5, h6]
      refine callK p3 ?_
      simp [an, am, ak, es, er, c3, h5, h6]
      refine WS_seq ?_
      refine WS_seq ?_
      refine WS_regD [] ?_
      simp [an, am, ak, es, er, c3, h5, h6]
      refine callD mu rfl ?_
      simp [an, am, ak, es, er, c3, h5, h6]
      refine callD s3 rfl ?_
      simp [an, am, ak, es, er, c3, h5, h6]
      refine ⟨rfl, ?_⟩
      refine WS_cond (t := false) (by simp [an, am, ak, es, er, c3, h5, h6]) (fun h => by cases h) (fun _ => ?_)
      refine WS_skip ?_
      simp [an, am, ak, es, er, c3, h5, h6]
      refine WS_seq ?_
      refine WS_reg [] ?_
      simp [an, am, ak, es, er, c3, h5, h6]
      refine WS_seq ?_
      refine WS_seq ?_
      refine WS_reg [] ?_
      simp [an, am, ak, es, er, c3, h5, h6]
      refine callK sg ?_
      simp [an, am, ak, es, er, c3, h5, h6]
      refine WS_cond (t := false) (by simp [an, am, ak, es, er, c3, h5, h6]) (fun h => by cases h) (fun _ => ?_)
      refine WS_skip ?_
      simp [an, am, ak, es, er, c3, h5, h6]
      refine WS_seq ?_
      refine WS_reg [] ?_
      simp [an, am, ak, es, er, c3, h5, h6]
      refine callK r1 ?_
      simp [an, am, ak, es, er, c3, h5, h6]
      refine WS_seq ?_
      refine WS_reg [] ?_
      simp [an, am, ak, es, er, c3, h5, h6]
      refine callK l1' ?_
      simp [an, am, ak, es, er, c3, h5, h6]
      refine WS_seq ?_
      refine WS_regD [] ?_
      simp [an, am, ak, es, er, c3, h5, h6]
      refine callD o1 rfl ?_
      simp [an, am, ak, es, er, c3, h5, h6]
      refine callD ad rfl ?_
      simp [an, am, ak, es, er, c3, h5, h6]
      refine callD hi rfl ?_
      simp [an, am, ak, es, er, c3, h5, h6]
      refine ⟨rfl, ?_⟩
      refine WS_seq ?_
      refine WS_reg [] ?_
      simp [an, am, ak, es, er, c3, h5, h6]
      refine callK pp ?_
      simp [an, am, ak, es, er, c3, h5, h6]
      refine WS_seq ?_
      refine WS_reg [] ?_
      simp [an, am, ak, es, er, c3, h5, h6]
      refine callK rr ?_
      simp [an, am, ak, es, er, c3, h5, h6]
      refine WS_seq ?_
      refine WS_regD [] ?_
      simp [an, am, ak, es, er, c3, h5, h6]
      refine callD c5 rfl ?_
      simp [an, am, ak, es, er, c3, h5, h6]
      refine callD c6 rfl ?_
      simp [an, am, ak, es, er, c3, h5, h6]
      refine callD nm rfl ?_
      simp [an, am, ak, es, er, c3, h5, h6]
      refine callD sm rfl ?_
      simp [an, am, ak, es, er, c3, h5, h6]
      refine ⟨rfl, ?_⟩
      refine WS_ret ?_
      simp [an, am, ak, es, er, c3, h5, h6]

end Go.Vw
