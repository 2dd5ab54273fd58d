/- Integers: the laws on sums, division, the ring, texts. -/
import Derived.Test.YtphcdigmgbhjcaaMD
set_option linter.unusedVariables false
set_option linter.unusedSimpArgs false
namespace Go.Vw
open Go.Proofs

attribute [local simp] RunL_cons RunL_nil AOp_none AOp_some acK_v acK_call agK_tt agK_ff agK_tf agK_ft agK_tup agK_i aop aun St.ev St.heap St.put thenQ blockQ upd_apply S0 argSlot lowV V.cells V.isAgg V.fits V.part partOk plains St.ret retSV svOf svsOf retQ retP retAll retOne uL_length uL_get? uL_get St.elems retH ownIdx ownAt
attribute [local simp] RunD_none RunD_some RunD_nil RunE_any acD_v acD_call agD_tt agD_ff agD_tf agD_ft agD_tup entsOf svref SO.opds SO.writes SO.makes callEnt pureSV pureOf RV.isOwn
attribute [local simp] abin_add abin_sub abin_mul abin_quo abin_rem abin_eql abin_neq abin_lss abin_leq abin_gtr abin_geq
attribute [local simp] uL_snoc uL_set uL_take uL_drop uL_append uL_replicate uL_nil
attribute [local simp] acK_callG acD_callG St.giv gsSV gvSV retEnts ownEnts SO.still
attribute [local simp] S0G argSlotG givSV retQG retPG retAllG retOneG HObj.width V.scalar trimQ V.byte
attribute [local simp] zv V.fits fillOk fillV Z_eq
theorem smallR_ex (x : Int) : ∃ m ok, smallR x = [.pure (.i .i64 m), .pure (.b ok)] := by
  unfold smallR
  split
  · exact ⟨_, _, rfl⟩
  · exact ⟨_, _, rfl⟩

theorem few2_one (n : Nat) (hn : n ≤ 2 ^ 40) (n1 : Bool) (l1 : List Nat) : Spec Try.prog f_law02_few [.i .i64 (n : Int), .sl (some 2) [zv n1 l1]] (· = [.pure (.b (fewB n [(n1, l1)]))]) := few2 n hn [(n1, l1)] (by simp)
theorem few2_two (n : Nat) (hn : n ≤ 2 ^ 40) (n1 n2 : Bool) (l1 l2 : List Nat) : Spec Try.prog f_law02_few [.i .i64 (n : Int), .sl (some 2) [zv n1 l1, zv n2 l2]] (· = [.pure (.b (fewB n [(n1, l1), (n2, l2)]))]) := few2 n hn [(n1, l1), (n2, l2)] (by simp)
theorem few2_three (n : Nat) (hn : n ≤ 2 ^ 40) (n1 n2 n3 : Bool) (l1 l2 l3 : List Nat) : Spec Try.prog f_law02_few [.i .i64 (n : Int), .sl (some 2) [zv n1 l1, zv n2 l2, zv n3 l3]] (· = [.pure (.b (fewB n [(n1, l1), (n2, l2), (n3, l3)]))]) := few2 n hn [(n1, l1), (n2, l2), (n3, l3)] (by simp)

set_option maxHeartbeats 1000000 in
theorem law_ZintAdds (n1 n2 : Bool) (l1 l2 : List Nat) (h1 : ZW (2 ^ 24) l1) (h2 : ZW (2 ^ 24) l2) (n : Int) (hn1 : -9223372036854775808 ≤ n) (hn2 : n ≤ 9223372036854775807) :
    Spec Try.prog f_law02_ZintAdds [zv n1 l1, zv n2 l2, .i .i64 n] (· = [.pure (.b true)]) := by
  have ia := isZ_zv (n := n1) h1
  have ib := isZ_zv (n := n2) h2
  have sm := zsmall ia (by omega)
  have rs := rsmall ia (by omega)
  obtain ⟨m, ok, hR⟩ := smallR_ex (zi n1 l1)
  rw [hR] at sm rs
  have fw : Spec Try.prog f_law02_few [.i .i64 150, .sl (some 2) [zv n1 l1, zv n2 l2]] (· = [.pure (.b (fewB 150 [(n1, l1), (n2, l2)]))]) := few2_two 150 (by omega) n1 n2 l1 l2
  have za := zadd ia ib (by omega)
  have ra := radd ia ib (by omega)
  have zs := zsub ia ib (by omega)
  have rsb := rsub ia ib (by omega)
  have zm := zmul ia ib (by omega)
  have rm := rmul ia ib (by omega)
  have zng := zneg ia (by omega)
  have rng := rneg ia (by omega)
  have znm := znorm ia (by omega)
  have rnm := rnorm ia (by omega)
  have zc := zcmp ia ib (by omega)
  have rc := rcmp ia ib (by omega)
  have zsg := zsign ia (by omega)
  have rsg := rsign ia (by omega)
  have zo := zof n hn1 hn2
  have ro := rof n hn1 hn2
  have q1 := ia.zlen
  have q2 := ib.zlen
  obtain ⟨x, hx⟩ : ∃ x, x = zi n1 l1 := ⟨_, rfl⟩
  obtain ⟨y, hy⟩ : ∃ x, x = zi n2 l2 := ⟨_, rfl⟩
  rw [← hx] at za ra zs rsb zm rm zng rng znm rnm zc rc zsg rsg q1
  rw [← hy] at za ra zs rsb zm rm zc rc q2
  have p1 := zlen_add x y
  have p2 := zlen_sub x y
  have p3 := zlen_mul x y
  have p4 := zlen_neg x
  have e1 := same2 (x + y) (by omega)
  have e2 := same2 (x - y) (by omega)
  have e3 := same2 (x * y) (by omega)
  have e4 := same2 (-x) (by omega)
  have e5 := same2 x (by omega)
  have e6 := same2 n (by have := zlen_small (x := n) (by omega); omega)
  have aw := awake2
  refine spec_at Try.func16 ok_law02_ZintAdds [] rfl (by simp) ?_
  unfold sc_law02_ZintAdds
  cases hf : fewB 150 [(n1, l1), (n2, l2)] with
  | false =>
    rw [hf] at fw
    refine WS_seq ?_
    refine WS_reg [] ?_
    simp
    refine WS_seq ?_
    refine WS_reg [] ?_
    simp
    refine callK aw ?_
    simp
    refine WS_seq ?_
    refine WS_reg [] ?_
    simp
    refine callK sm ?_
    simp
    refine WS_seq ?_
    refine WS_reg [] ?_
    simp
    refine callK rs ?_
    simp
    refine WS_seq ?_
    refine WS_seq ?_
    refine WS_reg [] ?_
    simp
    refine callK fw ?_
    simp
    refine WS_cond (t := true) (by simp) (fun _ => ?_) (fun h => by cases h)
    refine WS_seq ?_
    refine WS_reg [] ?_
    simp
    refine WS_ret ?_
    simp
  | true =>
    rw [hf] at fw
    refine WS_seq ?_
    refine WS_reg [] ?_
    simp
    refine WS_seq ?_
    refine WS_reg [] ?_
    simp
    refine callK aw ?_
    simp
    refine WS_seq ?_
    refine WS_reg [] ?_
    simp
    refine callK sm ?_
    simp
    refine WS_seq ?_
    refine WS_reg [] ?_
    simp
    refine callK rs ?_
    simp
    refine WS_seq ?_
    refine WS_seq ?_
    refine WS_reg [] ?_
    simp
    refine callK fw ?_
    simp
    refine WS_cond (t := false) (by simp) (fun h => by cases h) (fun _ => ?_)
    refine WS_skip ?_
    simp
    refine WS_seq ?_
    refine WS_regD [] ?_
    simp
    refine callD za rfl ?_
    simp
    refine callD ra rfl ?_
    simp
    refine callD e1 rfl ?_
    simp
    refine callD zs rfl ?_
    simp
    refine callD rsb rfl ?_
    simp
    refine callD e2 rfl ?_
    simp
    refine callD zm rfl ?_
    simp
    refine callD rm rfl ?_
    simp
    refine callD e3 rfl ?_
    simp
    refine callD zng rfl ?_
    simp
    refine callD rng rfl ?_
    simp
    refine callD e4 rfl ?_
    simp
    refine callD znm rfl ?_
    simp
    refine callD rnm rfl ?_
    simp
    refine callD e5 rfl ?_
    simp
    refine callD zc rfl ?_
    simp
    refine callD rc rfl ?_
    simp
    refine callD zsg rfl ?_
    simp
    refine callD rsg rfl ?_
    simp
    refine callD zo rfl ?_
    simp
    refine callD ro rfl ?_
    simp
    refine callD e6 rfl ?_
    simp
    refine ⟨rfl, ?_⟩
    refine WS_ret ?_
    simp
end Go.Vw
set_option linter.unusedVariables false
set_option linter.unusedSimpArgs false
namespace Go.Vw
open Go.Proofs

attribute [local simp] RunL_cons RunL_nil AOp_none AOp_some acK_v acK_call agK_tt agK_ff agK_tf agK_ft agK_tup agK_i aop aun St.ev St.heap St.put thenQ blockQ upd_apply S0 argSlot lowV V.cells V.isAgg V.fits V.part partOk plains St.ret retSV svOf svsOf retQ retP retAll retOne uL_length uL_get? uL_get St.elems retH ownIdx ownAt
attribute [local simp] RunD_none RunD_some RunD_nil RunE_any acD_v acD_call agD_tt agD_ff agD_tf agD_ft agD_tup entsOf svref SO.opds SO.writes SO.makes callEnt pureSV pureOf RV.isOwn
attribute [local simp] abin_add abin_sub abin_mul abin_quo abin_rem abin_eql abin_neq abin_lss abin_leq abin_gtr abin_geq
attribute [local simp] uL_snoc uL_set uL_take uL_drop uL_append uL_replicate uL_nil
attribute [local simp] acK_callG acD_callG St.giv gsSV gvSV retEnts ownEnts SO.still
attribute [local simp] S0G argSlotG givSV retQG retPG retAllG retOneG HObj.width V.scalar trimQ V.byte
attribute [local simp] zv V.fits fillOk fillV Z_eq
theorem isZ_of {x : Int} {k : Nat} (h : zlen x ≤ k) : IsZ k (Z x) x := isZ_Z h

set_option maxHeartbeats 2000000 in
theorem law_ZintRing (n1 n2 n3 : Bool) (l1 l2 l3 : List Nat) (h1 : ZW (2 ^ 24) l1) (h2 : ZW (2 ^ 24) l2) (h3 : ZW (2 ^ 24) l3) :
    Spec Try.prog f_law02_ZintRing [zv n1 l1, zv n2 l2, zv n3 l3] (· = [.pure (.b true)]) := by
  have ia := isZ_zv (n := n1) h1
  have ib := isZ_zv (n := n2) h2
  have ic := isZ_zv (n := n3) h3
  have fw : Spec Try.prog f_law02_few [.i .i64 60, .sl (some 2) [zv n1 l1, zv n2 l2, zv n3 l3]] (· = [.pure (.b (fewB 60 [(n1, l1), (n2, l2), (n3, l3)]))]) := few2_three 60 (by omega) n1 n2 n3 l1 l2 l3
  have q1 := ia.zlen
  have q2 := ib.zlen
  have q3 := ic.zlen
  obtain ⟨x, hx⟩ : ∃ x, x = zi n1 l1 := ⟨_, rfl⟩
  obtain ⟨y, hy⟩ : ∃ x, x = zi n2 l2 := ⟨_, rfl⟩
  obtain ⟨z, hz⟩ : ∃ x, x = zi n3 l3 := ⟨_, rfl⟩
  rw [← hx] at ia q1
  rw [← hy] at ib q2
  rw [← hz] at ic q3
  have p1 := zlen_add x y
  have p2 := zlen_add y z
  have p3 := zlen_add (x + y) z
  have m1 := zlen_mul x y
  have m2 := zlen_mul y z
  have m3 := zlen_mul (x * y) z
  have m4 := zlen_mul x z
  have m5 := zlen_mul x (y + z)
  have p4 := zlen_neg x
  have a1 := zadd ia ib (by omega)
  have a2 := zadd ib ia (by omega)
  rw [Int.add_comm y x] at a2
  have b1 := zmul ia ib (by omega)
  have b2 := zmul ib ia (by omega)
  rw [Int.mul_comm y x] at b2
  have c1 := zadd (isZ_of (x := x + y) (k := 2 ^ 26) (by omega)) (ic.mono (by omega)) (by omega)
  have c2 := zadd ib ic (by omega)
  have c3 := zadd (ia.mono (by omega)) (isZ_of (x := y + z) (k := 2 ^ 26) (by omega)) (by omega)
  rw [← Int.add_assoc] at c3
  have d1 := zmul (isZ_of (x := x * y) (k := 2 ^ 26) (by omega)) (ic.mono (by omega)) (by omega)
  have d2 := zmul ib ic (by omega)
  have d3 := zmul (ia.mono (by omega)) (isZ_of (x := y * z) (k := 2 ^ 26) (by omega)) (by omega)
  rw [← Int.mul_assoc] at d3
  have g1 := zmul (ia.mono (by omega)) (isZ_of (x := y + z) (k := 2 ^ 26) (by omega)) (by omega)
  have g2 := zmul ia ic (by omega)
  have g3 := zadd (isZ_of (x := x * y) (k := 2 ^ 27) (by omega)) (isZ_of (x := x * z) (k := 2 ^ 27) (by omega)) (by omega)
  rw [← Int.mul_add] at g3
  have n1' := zneg ia (by omega)
  have n2' := zadd ia (isZ_of (x := -x) (k := 2 ^ 24) (by omega)) (by omega)
  rw [Int.add_right_neg] at n2'
  have o0 := zof 0 (by omega) (by omega)
  have o1 := zof 1 (by omega) (by omega)
  have u1 := zmul ia (isZ_of (x := 1) (k := 2 ^ 24) (by have := zlen_one; omega)) (by omega)
  rw [Int.mul_one] at u1
  have nm := znorm ia (by omega)
  have nn := zneg (isZ_of (x := -x) (k := 2 ^ 24) (by omega)) (by omega)
  rw [Int.neg_neg] at nn
  have e1 := same2 (x + y) (by omega)
  have e2 := same2 (x * y) (by omega)
  have e3 := same2 (x + y + z) (by omega)
  have e4 := same2 (x * y * z) (by omega)
  have e5 := same2 (x * (y + z)) (by omega)
  have e6 := same2 0 (by have := zlen_zero; omega)
  have e7 := same2 x (by omega)
  have aw := awake2
  refine spec_at Try.func15 ok_law02_ZintRing [] rfl (by simp) ?_
  unfold sc_law02_ZintRing
  cases hf : fewB 60 [(n1, l1), (n2, l2), (n3, l3)] with
  | false =>
    rw [hf] at fw
    refine WS_seq ?_
    refine WS_reg [] ?_
    simp
    refine WS_seq ?_
    refine WS_reg [] ?_
    simp
    refine callK aw ?_
    simp
    refine WS_seq ?_
    refine WS_seq ?_
    refine WS_reg [] ?_
    simp
    refine callK fw ?_
    simp
    refine WS_cond (t := true) (by simp) (fun _ => ?_) (fun h => by cases h)
    refine WS_seq ?_
    refine WS_reg [] ?_
    simp
    refine WS_ret ?_
    simp
  | true =>
    rw [hf] at fw
    refine WS_seq ?_
    refine WS_reg [] ?_
    simp
    refine WS_seq ?_
    refine WS_reg [] ?_
    simp
    refine callK aw ?_
    simp
    refine WS_seq ?_
    refine WS_seq ?_
    refine WS_reg [] ?_
    simp
    refine callK fw ?_
    simp
    refine WS_cond (t := false) (by simp) (fun h => by cases h) (fun _ => ?_)
    refine WS_skip ?_
    simp
    refine WS_seq ?_
    refine WS_reg [] ?_
    simp
    refine callK o0 ?_
    simp
    refine WS_seq ?_
    refine WS_regD [] ?_
    simp
    refine callD a1 rfl ?_
    simp
    refine callD a2 rfl ?_
    simp
    refine callD e1 rfl ?_
    simp
    refine callD b1 rfl ?_
    simp
    refine callD b2 rfl ?_
    simp
    refine callD e2 rfl ?_
    simp
    refine callD a1 rfl ?_
    simp
    refine callD c1 rfl ?_
    simp
    refine callD c2 rfl ?_
    simp
    refine callD c3 rfl ?_
    simp
    refine callD e3 rfl ?_
    simp
    refine callD b1 rfl ?_
    simp
    refine callD d1 rfl ?_
    simp
    refine callD d2 rfl ?_
    simp
    refine callD d3 rfl ?_
    simp
    refine callD e4 rfl ?_
    simp
    refine callD c2 rfl ?_
    simp
    refine callD g1 rfl ?_
    simp
    refine callD b1 rfl ?_
    simp
    refine callD g2 rfl ?_
    simp
    refine callD g3 rfl ?_
    simp
    refine callD e5 rfl ?_
    simp
    refine callD n1' rfl ?_
    simp
    refine callD n2' rfl ?_
    simp
    refine callD e6 rfl ?_
    simp
    refine callD o1 rfl ?_
    simp
    refine callD u1 rfl ?_
    simp
    refine callD nm rfl ?_
    simp
    refine callD e7 rfl ?_
    simp
    refine callD n1' rfl ?_
    simp
    refine callD nn rfl ?_
    simp
    refine callD nm rfl ?_
    simp
    refine callD e7 rfl ?_
    simp
    refine ⟨rfl, ?_⟩
    refine WS_ret ?_
    simp

theorem exactR_ex (x y : Int) : ∃ (q : Int) (e : Int), exactR x y = [.pure (Z q), .pure (.i .i64 e)] ∧ zlen q ≤ zlen x := by
  unfold exactR
  split
  · exact ⟨0, 3, rfl, by rw [zlen_zero]; omega⟩
  · split
    · exact ⟨_, _, rfl, zlen_ediv x y⟩
    · exact ⟨0, 4, rfl, by rw [zlen_zero]; omega⟩

set_option maxHeartbeats 1000000 in
theorem law_ZintDivides (n1 n2 : Bool) (l1 l2 : List Nat) (h1 : ZW (2 ^ 24) l1) (h2 : ZW (2 ^ 24) l2) :
    Spec Try.prog f_law02_ZintDivides [zv n1 l1, zv n2 l2] (· = [.pure (.b true)]) := by
  have ia := isZ_zv (n := n1) h1
  have ib := isZ_zv (n := n2) h2
  have fw : Spec Try.prog f_law02_few [.i .i64 40, .sl (some 2) [zv n1 l1, zv n2 l2]] (· = [.pure (.b (fewB 40 [(n1, l1), (n2, l2)]))]) := few2_two 40 (by omega) n1 n2 l1 l2
  have q1 := ia.zlen
  have q2 := ib.zlen
  obtain ⟨x, hx⟩ : ∃ x, x = zi n1 l1 := ⟨_, rfl⟩
  obtain ⟨y, hy⟩ : ∃ x, x = zi n2 l2 := ⟨_, rfl⟩
  rw [← hx] at ia q1
  rw [← hy] at ib q2
  have x1 := zexact ia ib (by omega)
  have x2 := rexact ia ib (by omega)
  obtain ⟨qe, ee, hE, hEl⟩ := exactR_ex x y
  rw [hE] at x1 x2
  obtain ⟨q, r, e, d1, d2, t1, t2⟩ : ∃ q r e : Int, Spec Try.prog f_zint_Div [zv n1 l1, zv n2 l2] (· = [.pure (Z q), .pure (Z r), .pure (.i .i64 e)]) ∧ Spec Try.prog f_ref02_Div [zv n1 l1, zv n2 l2] (· = [.pure (Z q), .pure (Z r), .pure (.i .i64 e)]) ∧ zlen q ≤ 2 ^ 24 ∧ zlen r ≤ 2 ^ 24 := by
    by_cases h0 : y = 0
    · subst h0
      exact ⟨0, 0, 3, zdiv_zero ia ib (by omega), rdivz_zero ia ib (by omega), by rw [zlen_zero]; omega, by rw [zlen_zero]; omega⟩
    · have t1 := zlen_ediv x y
      have t2 := zlen_emod x y h0
      exact ⟨x / y, x % y, 0, zdiv ia ib (by omega) h0, rdivz ia ib (by omega) h0, by omega, by omega⟩
  have e1 := same2 q (by omega)
  have e2 := same2 r (by omega)
  have e3 := same2 qe (by omega)
  have aw := awake2
  refine spec_at Try.func12 ok_law02_ZintDivides [] rfl (by simp) ?_
  unfold sc_law02_ZintDivides
  cases hf : fewB 40 [(n1, l1), (n2, l2)] with
  | false =>
    rw [hf] at fw
    refine WS_seq ?_
    refine WS_reg [] ?_
    simp
    refine WS_seq ?_
    refine WS_reg [] ?_
    simp
    refine callK aw ?_
    simp
    refine WS_seq ?_
    refine WS_seq ?_
    refine WS_reg [] ?_
    simp
    refine callK fw ?_
    simp
    refine WS_cond (t := true) (by simp) (fun _ => ?_) (fun h => by cases h)
    refine WS_seq ?_
    refine WS_reg [] ?_
    simp
    refine WS_ret ?_
    simp
  | true =>
    rw [hf] at fw
    refine WS_seq ?_
    refine WS_reg [] ?_
    simp
    refine WS_seq ?_
    refine WS_reg [] ?_
    simp
    refine callK aw ?_
    simp
    refine WS_seq ?_
    refine WS_seq ?_
    refine WS_reg [] ?_
    simp
    refine callK fw ?_
    simp
    refine WS_cond (t := false) (by simp) (fun h => by cases h) (fun _ => ?_)
    refine WS_skip ?_
    simp
    refine WS_seq ?_
    refine WS_reg [] ?_
    simp
    refine callK d1 ?_
    simp
    refine WS_seq ?_
    refine WS_reg [] ?_
    simp
    refine callK d2 ?_
    simp
    refine WS_seq ?_
    refine WS_reg [] ?_
    simp
    refine callK x1 ?_
    simp
    refine WS_seq ?_
    refine WS_reg [] ?_
    simp
    refine callK x2 ?_
    simp
    refine WS_seq ?_
    refine WS_reg [] ?_
    simp
    refine callK e1 ?_
    simp
    refine callK e2 ?_
    simp
    refine callK e3 ?_
    simp
    refine WS_ret ?_
    simp

set_option maxHeartbeats 1000000 in
theorem law_ZintRest (n1 n2 : Bool) (l1 l2 : List Nat) (h1 : ZW (2 ^ 24) l1) (h2 : ZW (2 ^ 24) l2) :
    Spec Try.prog f_law02_ZintRest [zv n1 l1, zv n2 l2] (· = [.pure (.b true)]) := by
  have ia := isZ_zv (n := n1) h1
  have ib := isZ_zv (n := n2) h2
  have fw : Spec Try.prog f_law02_few [.i .i64 100, .sl (some 2) [zv n1 l1, zv n2 l2]] (· = [.pure (.b (fewB 100 [(n1, l1), (n2, l2)]))]) := few2_two 100 (by omega) n1 n2 l1 l2
  have q1 := ia.zlen
  have q2 := ib.zlen
  obtain ⟨x, hx⟩ : ∃ x, x = zi n1 l1 := ⟨_, rfl⟩
  obtain ⟨y, hy⟩ : ∃ x, x = zi n2 l2 := ⟨_, rfl⟩
  rw [← hx] at ia q1
  rw [← hy] at ib q2
  have sgb := zsign ib (by omega)
  have aw := awake2
  refine spec_at Try.func17 ok_law02_ZintRest [] rfl (by simp) ?_
  unfold sc_law02_ZintRest
  cases hf : fewB 100 [(n1, l1), (n2, l2)] with
  | false =>
    rw [hf] at fw
    refine WS_seq ?_
    refine WS_reg [] ?_
    simp
    refine WS_seq ?_
    refine WS_reg [] ?_
    simp
    refine callK aw ?_
    simp
    refine WS_seq ?_
    refine WS_seq ?_
    refine WS_reg [] ?_
    simp
    refine callK fw ?_
    simp
    refine WS_cond (t := true) (by simp) (fun _ => ?_) (fun h => by cases h)
    refine WS_seq ?_
    refine WS_reg [] ?_
    simp
    refine WS_ret ?_
    simp
  | true =>
    rw [hf] at fw
    by_cases h0 : y = 0
    · have d0 := zdiv_zero ia (h0 ▸ ib) (by omega)
      rw [h0, Int.sign_zero] at sgb
      refine WS_seq ?_
      refine WS_reg [] ?_
      simp
      refine WS_seq ?_
      refine WS_reg [] ?_
      simp
      refine callK aw ?_
      simp
      refine WS_seq ?_
      refine WS_seq ?_
      refine WS_reg [] ?_
      simp
      refine callK fw ?_
      simp
      refine WS_cond (t := false) (by simp) (fun h => by cases h) (fun _ => ?_)
      refine WS_skip ?_
      simp
      refine WS_seq ?_
      refine WS_reg [] ?_
      simp
      refine callK d0 ?_
      simp
      refine WS_seq ?_
      refine WS_seq ?_
      refine WS_reg [] ?_
      simp
      refine callK sgb ?_
      simp
      refine WS_cond (t := true) (by simp) (fun _ => ?_) (fun h => by cases h)
      refine WS_seq ?_
      refine WS_reg [] ?_
      simp
      refine WS_ret ?_
      simp
    · have t1 := zlen_ediv x y
      have t2 := zlen_emod x y h0
      have t3 := zlen_mul x y
      have t4 := zlen_mul (x / y) y
      have dv := zdiv ia ib (by omega) h0
      have mu := zmul ia ib (by omega)
      have ex := zexact (isZ_of (x := x * y) (k := 2 ^ 26) (by omega)) (ib.mono (by omega)) (by omega)
      rw [exactR, if_neg h0, Int.mul_emod_left, if_pos rfl, Int.mul_ediv_cancel _ h0] at ex
      have hsg : y.sign ≠ 0 := by rw [Ne, Int.sign_eq_zero_iff_zero]; exact h0
      have mq := zmul (isZ_of (x := x / y) (k := 2 ^ 26) (by omega)) (ib.mono (by omega)) (by omega)
      have ad := zadd (isZ_of (x := x / y * y) (k := 2 ^ 28) (by omega)) (isZ_of (x := x % y) (k := 2 ^ 28) (by omega)) (by omega)
      rw [Int.ediv_mul_add_emod] at ad
      have hr0 := Int.emod_nonneg x h0
      have hrlt := Int.emod_lt x h0
      have c1 := zcmp (isZ_of (x := x % y) (k := 2 ^ 26) (by omega)) (ib.mono (by omega)) (by omega)
      have ng := zneg ib (by omega)
      have t5 := zlen_neg y
      have c2 := zcmp (isZ_of (x := x % y) (k := 2 ^ 26) (by omega)) (isZ_of (x := -y) (k := 2 ^ 26) (by omega)) (by omega)
      have nm := znorm ia (by omega)
      have e1 := same2 x (by omega)
      have sr := zsign (isZ_of (x := x % y) (k := 2 ^ 26) (by omega)) (by omega)
      have hsr : ¬ (x % y).sign < 0 := by
        rcases Int.lt_or_eq_of_le hr0 with h | h
        · rw [sign_gt h]; omega
        · rw [← h]; simp
      have hsr' : 0 ≤ (x % y).sign := by omega
      by_cases hy0 : 0 < y
      · rw [sign_lt (show x % y - y < 0 by omega)] at c1
        rw [sign_gt hy0] at sgb
        refine WS_seq ?_
        refine WS_reg [] ?_
        simp [hsr']
        refine WS_seq ?_
        refine WS_reg [] ?_
        simp [hsr']
        refine callK aw ?_
        simp [hsr']
        refine WS_seq ?_
        refine WS_seq ?_
        refine WS_reg [] ?_
        simp [hsr']
        refine callK fw ?_
        simp [hsr']
        refine WS_cond (t := false) (by simp [hsr']) (fun h => by cases h) (fun _ => ?_)
        refine WS_skip ?_
        simp [hsr']
        refine WS_seq ?_
        refine WS_reg [] ?_
        simp [hsr']
        refine callK dv ?_
        simp [hsr']
        refine WS_seq ?_
        refine WS_seq ?_
        refine WS_reg [] ?_
        simp [hsr']
        refine callK sgb ?_
        simp [hsr']
        refine WS_cond (t := false) (by simp [hsr']) (fun h => by cases h) (fun _ => ?_)
        refine WS_skip ?_
        simp [hsr']
        refine WS_seq ?_
        refine WS_regD [] ?_
        simp [hsr']
        refine callD mu rfl ?_
        simp [hsr']
        refine callD ex rfl ?_
        simp [hsr']
        refine ⟨rfl, ?_⟩
        refine WS_seq ?_
        refine WS_regD [] ?_
        simp [hsr']
        refine callD c1 rfl ?_
        simp [hsr']
        refine ⟨rfl, ?_⟩
        refine WS_seq ?_
        refine WS_regD [] ?_
        simp [hsr']
        refine callD mq rfl ?_
        simp [hsr']
        refine callD ad rfl ?_
        simp [hsr']
        refine callD nm rfl ?_
        simp [hsr']
        refine callD e1 rfl ?_
        simp [hsr']
        refine callD sr rfl ?_
        simp [hsr']
        refine callD nm rfl ?_
        simp [hsr']
        refine callD e1 rfl ?_
        simp [hsr']
        refine ⟨rfl, ?_⟩
        refine WS_ret ?_
        simp [hsr']
      · rw [sign_gt (show 0 < x % y - y by omega)] at c1
        rw [sign_lt (show y < 0 by omega)] at sgb
        rw [sign_lt (show x % y - -y < 0 by omega)] at c2
        refine WS_seq ?_
        refine WS_reg [] ?_
        simp [hsr']
        refine WS_seq ?_
        refine WS_reg [] ?_
        simp [hsr']
        refine callK aw ?_
        simp [hsr']
        refine WS_seq ?_
        refine WS_seq ?_
        refine WS_reg [] ?_
        simp [hsr']
        refine callK fw ?_
        simp [hsr']
        refine WS_cond (t := false) (by simp [hsr']) (fun h => by cases h) (fun _ => ?_)
        refine WS_skip ?_
        simp [hsr']
        refine WS_seq ?_
        refine WS_reg [] ?_
        simp [hsr']
        refine callK dv ?_
        simp [hsr']
        refine WS_seq ?_
        refine WS_seq ?_
        refine WS_reg [] ?_
        simp [hsr']
        refine callK sgb ?_
        simp [hsr']
        refine WS_cond (t := false) (by simp [hsr']) (fun h => by cases h) (fun _ => ?_)
        refine WS_skip ?_
        simp [hsr']
        refine WS_seq ?_
        refine WS_regD [] ?_
        simp [hsr']
        refine callD mu rfl ?_
        simp [hsr']
        refine callD ex rfl ?_
        simp [hsr']
        refine ⟨rfl, ?_⟩
        refine WS_seq ?_
        refine WS_regD [] ?_
        simp [hsr']
        refine callD c1 rfl ?_
        simp [hsr']
        refine callD ng rfl ?_
        simp [hsr']
        refine callD c2 rfl ?_
        simp [hsr']
        refine ⟨rfl, ?_⟩
        refine WS_seq ?_
        refine WS_regD [] ?_
        simp [hsr']
        refine callD mq rfl ?_
        simp [hsr']
        refine callD ad rfl ?_
        simp [hsr']
        refine callD nm rfl ?_
        simp [hsr']
        refine callD e1 rfl ?_
        simp [hsr']
        refine callD sr rfl ?_
        simp [hsr']
        refine callD nm rfl ?_
        simp [hsr']
        refine callD e1 rfl ?_
        simp [hsr']
        refine ⟨rfl, ?_⟩
        refine WS_ret ?_
        simp [hsr']
end Go.Vw
set_option linter.unusedVariables false
set_option linter.unusedSimpArgs false
namespace Go.Vw
open Go.Proofs

theorem decT_head (n : Nat) : (Nm.decT n).head? ≠ some 45 := by
  unfold Nm.decT
  split
  · simp
  · rename_i h
    obtain ⟨d, r, e, h1, h2⟩ := Nm.decL_head h
    rw [e]
    intro h3
    simp only [List.head?_cons, Option.some.injEq] at h3
    have := Nm.txB_nat h2
    rw [h3] at this
    have h4 : (45 : UInt8).toNat = 45 := rfl
    omega

theorem zP_inv {l : List UInt8} {z : Int} (h : zP l = some z) : zT z = l := by
  by_cases hm : l.head? = some 45
  · obtain ⟨r, rfl, _, _⟩ := minus_true hm
    rw [zP_minus] at h
    cases hp : parseV r with
    | none => rw [hp] at h; cases h
    | some v =>
      rw [hp] at h
      have h : (if v = 0 then none else some (-(v : Int))) = some z := h
      split at h
      · cases h
      · rename_i h0
        simp only [Option.some.injEq] at h
        rw [zT, if_pos (by omega), ← h, Int.natAbs_neg, Int.natAbs_natCast, Nm.decT_parse hp]
  · rw [zP_plain hm] at h
    cases hp : parseV l with
    | none => rw [hp] at h; cases h
    | some v =>
      rw [hp] at h
      have h : some (v : Int) = some z := h
      simp only [Option.some.injEq] at h
      rw [zT, if_neg (by omega), ← h, Int.natAbs_natCast, Nm.decT_parse hp]

theorem zP_zT {x : Int} (hl : (Nm.decT x.natAbs).length ≤ 4096) : zP (zT x) = some x := by
  have hp := Nm.parse_decT hl
  by_cases hx : x < 0
  · rw [zT, if_pos hx, zP_minus, hp]
    show (if x.natAbs = 0 then none else some (-(x.natAbs : Int))) = some x
    rw [if_neg (by omega)]
    congr 1; omega
  · rw [zT, if_neg hx, zP_plain (decT_head _), hp]
    show some (x.natAbs : Int) = some x
    congr 1; omega

theorem zP_len {l : List UInt8} {z : Int} (h : zP l = some z) : zlen z ≤ 4096 := by
  have key : ∀ (r : List UInt8) (v : Nat), parseV r = some v → z.natAbs = v → zlen z ≤ 4096 := fun r v hp hz => by
    have h1 := parse_val_lt hp
    have h2 := parseV_len hp
    have := zlen_lt (z := z) (k := r.length) (by rw [hz]; exact h1)
    omega
  by_cases hm : l.head? = some 45
  · obtain ⟨r, rfl, _, _⟩ := minus_true hm
    rw [zP_minus] at h
    cases hp : parseV r with
    | none => rw [hp] at h; cases h
    | some v =>
      rw [hp] at h
      have h : (if v = 0 then none else some (-(v : Int))) = some z := h
      split at h
      · cases h
      · simp only [Option.some.injEq] at h
        exact key r v hp (by omega)
  · rw [zP_plain hm] at h
    cases hp : parseV l with
    | none => rw [hp] at h; cases h
    | some v =>
      rw [hp] at h
      have h : some (v : Int) = some z := h
      simp only [Option.some.injEq] at h
      exact key l v hp (by omega)

attribute [local simp] RunL_cons RunL_nil AOp_none AOp_some acK_v acK_call agK_tt agK_ff agK_tf agK_ft agK_tup agK_i aop aun St.ev St.heap St.put thenQ blockQ upd_apply S0 argSlot lowV V.cells V.isAgg V.fits V.part partOk plains St.ret retSV svOf svsOf retQ retP retAll retOne uL_length uL_get? uL_get St.elems retH ownIdx ownAt
attribute [local simp] RunD_none RunD_some RunD_nil RunE_any acD_v acD_call agD_tt agD_ff agD_tf agD_ft agD_tup entsOf svref SO.opds SO.writes SO.makes callEnt pureSV pureOf RV.isOwn
attribute [local simp] abin_add abin_sub abin_mul abin_quo abin_rem abin_eql abin_neq abin_lss abin_leq abin_gtr abin_geq
attribute [local simp] uL_snoc uL_set uL_take uL_drop uL_append uL_replicate uL_nil
attribute [local simp] acK_callG acD_callG St.giv gsSV gvSV retEnts ownEnts SO.still
attribute [local simp] S0G argSlotG givSV retQG retPG retAllG retOneG HObj.width V.scalar trimQ V.byte
attribute [local simp] zv V.fits fillOk fillV Z_eq
set_option maxHeartbeats 1000000 in
theorem law_ZintTexts (n1 : Bool) (l1 : List Nat) (h1 : ZW (2 ^ 24) l1) (s : List UInt8) (hs : s.length ≤ 2 ^ 40) :
    Spec Try.prog f_law02_ZintTexts [zv n1 l1, tx s] (· = [.pure (.b true)]) := by
  have ia := isZ_zv (n := n1) h1
  have fw : Spec Try.prog f_law02_few [.i .i64 60, .sl (some 2) [zv n1 l1]] (· = [.pure (.b (fewB 60 [(n1, l1)]))]) := few2_one 60 (by omega) n1 l1
  have p1 := zparse s hs
  have p2 := rzparse s hs
  obtain ⟨z, e, hR, hz⟩ : ∃ (z : Int) (e : Int), zPR (zP s) = [.pure (Z z), .pure (.i .i64 e)] ∧ zlen z ≤ 4096 := by
    cases h : zP s with
    | none => exact ⟨0, 2, rfl, by rw [zlen_zero]; omega⟩
    | some z => exact ⟨z, 0, rfl, zP_len h⟩
  rw [hR] at p1 p2
  have sm := same2 z (by omega)
  have t1 := ztext ia (by omega)
  have t2 := rztext ia (by omega)
  obtain ⟨T, hT⟩ : ∃ T, T = zT (zi n1 l1) := ⟨_, rfl⟩
  rw [← hT] at t1 t2
  have aw := awake2
  refine spec_at Try.func13 ok_law02_ZintTexts [] rfl (by simp) ?_
  unfold sc_law02_ZintTexts
  cases hf : fewB 60 [(n1, l1)] with
  | false =>
    rw [hf] at fw
    refine WS_seq ?_
    refine WS_reg [] ?_
    simp [tx]
    refine WS_seq ?_
    refine WS_reg [] ?_
    simp [tx]
    refine callK aw ?_
    simp [tx]
    refine WS_seq ?_
    refine WS_reg [] ?_
    simp [tx]
    refine callK p1 ?_
    simp [tx]
    refine WS_seq ?_
    refine WS_reg [] ?_
    simp [tx]
    refine callK p2 ?_
    simp [tx]
    refine WS_seq ?_
    refine WS_seq ?_
    refine WS_reg [] ?_
    simp [tx]
    refine callK sm ?_
    simp [tx]
    refine callK fw ?_
    simp [tx]
    refine WS_cond (t := true) (by simp [tx]) (fun _ => ?_) (fun h => by cases h)
    refine WS_seq ?_
    refine WS_reg [] ?_
    simp [tx]
    refine callK sm ?_
    simp [tx]
    refine WS_ret ?_
    simp [tx]
  | true =>
    rw [hf] at fw
    refine WS_seq ?_
    refine WS_reg [] ?_
    simp [tx, abin_seql]
    refine WS_seq ?_
    refine WS_reg [] ?_
    simp [tx, abin_seql]
    refine callK aw ?_
    simp [tx, abin_seql]
    refine WS_seq ?_
    refine WS_reg [] ?_
    simp [tx, abin_seql]
    refine callK p1 ?_
    simp [tx, abin_seql]
    refine WS_seq ?_
    refine WS_reg [] ?_
    simp [tx, abin_seql]
    refine callK p2 ?_
    simp [tx, abin_seql]
    refine WS_seq ?_
    refine WS_seq ?_
    refine WS_reg [] ?_
    simp [tx, abin_seql]
    refine callK sm ?_
    simp [tx, abin_seql]
    refine callK fw ?_
    simp [tx, abin_seql]
    refine WS_cond (t := false) (by simp [tx, abin_seql]) (fun h => by cases h) (fun _ => ?_)
    refine WS_skip ?_
    simp [tx, abin_seql]
    refine WS_seq ?_
    refine WS_regD [] ?_
    simp [tx, abin_seql]
    refine callD t1 rfl ?_
    simp [tx, abin_seql]
    refine callD t2 rfl ?_
    simp [tx, abin_seql]
    refine ⟨rfl, ?_⟩
    refine WS_ret ?_
    simp [tx, abin_seql]

set_option maxHeartbeats 1000000 in
theorem law_ZintBack (n1 : Bool) (l1 : List Nat) (h1 : ZW (2 ^ 24) l1) (s : List UInt8) (hs : s.length ≤ 2 ^ 40) (n : Int) (hn1 : -9223372036854775808 ≤ n) (hn2 : n ≤ 9223372036854775807) :
    Spec Try.prog f_law02_ZintBack [zv n1 l1, tx s, .i .i64 n] (· = [.pure (.b true)]) := by
  have ia := isZ_zv (n := n1) h1
  have fw : Spec Try.prog f_law02_few [.i .i64 150, .sl (some 2) [zv n1 l1]] (· = [.pure (.b (fewB 150 [(n1, l1)]))]) := few2_one 150 (by omega) n1 l1
  have p1 := zparse s hs
  have zo := zof n hn1 hn2
  have sm := zsmall (isZ_Z (z := n) (k := 1) (zlen_small (by omega))) (by omega)
  rw [smallR, if_pos ⟨hn1, hn2⟩] at sm
  have t1 := ztext ia (by omega)
  have nm := znorm ia (by omega)
  have q1 := ia.zlen
  obtain ⟨x, hx⟩ : ∃ x, x = zi n1 l1 := ⟨_, rfl⟩
  rw [← hx] at t1 nm q1
  have e1 := same2 x (by omega)
  have aw := awake2
  have hlen : fewB 150 [(n1, l1)] = true → zPR (zP (zT x)) = [.pure (Z x), .pure (.i .i64 0)] ∧ (zT x).length ≤ 2 ^ 40 := by
    intro hf
    simp only [fewB, List.all_cons, List.all_nil, Bool.and_true, decide_eq_true_eq] at hf
    have hv := Nm.val_lt h1.dl
    have hl := Nm.decT_length (n := x.natAbs) (L := l1.length) (by rw [hx, zi_abs]; exact hv)
    refine ⟨by rw [zP_zT (by omega)]; rfl, ?_⟩
    unfold zT
    split
    · simp; omega
    · omega
  refine spec_at Try.func14 ok_law02_ZintBack [] rfl (by simp) ?_
  unfold sc_law02_ZintBack
  cases hf : fewB 150 [(n1, l1)] with
  | false =>
    rw [hf] at fw
    cases hp : zP s with
    | none =>
      rw [hp, zPR, Z_eq] at p1
      refine WS_seq ?_
      refine WS_reg [] ?_
      simp [tx]
      refine WS_seq ?_
      refine WS_reg [] ?_
      simp [tx]
      refine callK aw ?_
      simp [tx]
      refine WS_seq ?_
      refine WS_reg [] ?_
      simp [tx]
      refine callK p1 ?_
      simp [tx]
      refine WS_seq ?_
      refine WS_reg [] ?_
      simp [tx]
      refine callK zo ?_
      simp [tx]
      refine callK sm ?_
      simp [tx]
      refine WS_seq ?_
      refine WS_seq ?_
      refine WS_reg [] ?_
      simp [tx]
      refine callK fw ?_
      simp [tx]
      refine WS_cond (t := true) (by simp [tx]) (fun _ => ?_) (fun h => by cases h)
      refine WS_seq ?_
      refine WS_reg [] ?_
      simp [tx]
      refine WS_ret ?_
      simp [tx]
    | some z =>
      rw [hp, zPR] at p1
      have hz := zP_len hp
      have tz := ztext (isZ_Z (z := z) (k := 4096) hz) (by omega)
      rw [zP_inv hp] at tz
      refine WS_seq ?_
      refine WS_reg [] ?_
      simp [tx, abin_seql, abin_sneq]
      refine WS_seq ?_
      refine WS_reg [] ?_
      simp [tx, abin_seql, abin_sneq]
      refine callK aw ?_
      simp [tx, abin_seql, abin_sneq]
      refine WS_seq ?_
      refine WS_reg [] ?_
      simp [tx, abin_seql, abin_sneq]
      refine callK p1 ?_
      simp [tx, abin_seql, abin_sneq]
      refine WS_seq ?_
      refine WS_reg [] ?_
      simp [tx, abin_seql, abin_sneq]
      refine callK zo ?_
      simp [tx, abin_seql, abin_sneq]
      refine callK sm ?_
      simp [tx, abin_seql, abin_sneq]
      refine WS_seq ?_
      refine WS_seq ?_
      refine WS_reg [] ?_
      simp [tx, abin_seql, abin_sneq]
      refine callK tz ?_
      simp [tx, abin_seql, abin_sneq]
      refine callK fw ?_
      simp [tx, abin_seql, abin_sneq]
      refine WS_cond (t := true) (by simp [tx, abin_seql, abin_sneq]) (fun _ => ?_) (fun h => by cases h)
      refine WS_seq ?_
      refine WS_reg [] ?_
      simp [tx, abin_seql, abin_sneq]
      refine callK tz ?_
      simp [tx, abin_seql, abin_sneq]
      refine WS_ret ?_
      simp [tx, abin_seql, abin_sneq]
  | true =>
    obtain ⟨hb, hl⟩ := hlen hf
    rw [hf] at fw
    have p2 := zparse (zT x) hl
    rw [hb] at p2
    obtain ⟨T, hT⟩ : ∃ T, T = zT x := ⟨_, rfl⟩
    rw [← hT] at t1 p2
    cases hp : zP s with
    | none =>
      rw [hp, zPR, Z_eq] at p1
      refine WS_seq ?_
      refine WS_reg [] ?_
      simp [tx]
      refine WS_seq ?_
      refine WS_reg [] ?_
      simp [tx]
      refine callK aw ?_
      simp [tx]
      refine WS_seq ?_
      refine WS_reg [] ?_
      simp [tx]
      refine callK p1 ?_
      simp [tx]
      refine WS_seq ?_
      refine WS_reg [] ?_
      simp [tx]
      refine callK zo ?_
      simp [tx]
      refine callK sm ?_
      simp [tx]
      refine WS_seq ?_
      refine WS_seq ?_
      refine WS_reg [] ?_
      simp [tx]
      refine callK fw ?_
      simp [tx]
      refine WS_cond (t := false) (by simp [tx]) (fun h => by cases h) (fun _ => ?_)
      refine WS_skip ?_
      simp [tx]
      refine WS_seq ?_
      refine WS_reg [] ?_
      simp [tx]
      refine callK t1 ?_
      simp [tx]
      refine callK p2 ?_
      simp [tx]
      refine WS_seq ?_
      refine WS_regD [] ?_
      simp [tx]
      refine callD nm rfl ?_
      simp [tx]
      refine callD e1 rfl ?_
      simp [tx]
      refine ⟨rfl, ?_⟩
      refine WS_ret ?_
      simp [tx]
    | some z =>
      rw [hp, zPR] at p1
      have hz := zP_len hp
      have tz := ztext (isZ_Z (z := z) (k := 4096) hz) (by omega)
      rw [zP_inv hp] at tz
      refine WS_seq ?_
      refine WS_reg [] ?_
      simp [tx, abin_seql, abin_sneq]
      refine WS_seq ?_
      refine WS_reg [] ?_
      simp [tx, abin_seql, abin_sneq]
      refine callK aw ?_
      simp [tx, abin_seql, abin_sneq]
      refine WS_seq ?_
      refine WS_reg [] ?_
      simp [tx, abin_seql, abin_sneq]
      refine callK p1 ?_
      simp [tx, abin_seql, abin_sneq]
      refine WS_seq ?_
      refine WS_reg [] ?_
      simp [tx, abin_seql, abin_sneq]
      refine callK zo ?_
      simp [tx, abin_seql, abin_sneq]
      refine callK sm ?_
      simp [tx, abin_seql, abin_sneq]
      refine WS_seq ?_
      refine WS_seq ?_
      refine WS_reg [] ?_
      simp [tx, abin_seql, abin_sneq]
      refine callK tz ?_
      simp [tx, abin_seql, abin_sneq]
      refine callK fw ?_
      simp [tx, abin_seql, abin_sneq]
      refine WS_cond (t := false) (by simp [tx, abin_seql, abin_sneq]) (fun h => by cases h) (fun _ => ?_)
      refine WS_skip ?_
      simp [tx, abin_seql, abin_sneq]
      refine WS_seq ?_
      refine WS_reg [] ?_
      simp [tx, abin_seql, abin_sneq]
      refine callK t1 ?_
      simp [tx, abin_seql, abin_sneq]
      refine callK p2 ?_
      simp [tx, abin_seql, abin_sneq]
      refine WS_seq ?_
      refine WS_regD [] ?_
      simp [tx, abin_seql, abin_sneq]
      refine callD nm rfl ?_
      simp [tx, abin_seql, abin_sneq]
      refine callD e1 rfl ?_
      simp [tx, abin_seql, abin_sneq]
      refine ⟨rfl, ?_⟩
      refine WS_ret ?_
      simp [tx, abin_seql, abin_sneq]
end Go.Vw
