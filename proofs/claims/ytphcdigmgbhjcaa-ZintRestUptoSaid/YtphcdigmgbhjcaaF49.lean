/- The contracts of ZintRing, ZintDivides, ZintRest. -/
import Derived.Test.YtphcdigmgbhjcaaF48
set_option linter.unusedVariables false
set_option linter.unusedSimpArgs false
namespace Go.Vw
open Go.Proofs

attribute [local simp] RunL_cons RunL_nil AOp_none AOp_some acK_v acK_call agK_tt agK_ff agK_tf agK_ft agK_tup agK_i aop aun St.ev St.heap St.put thenQ blockQ upd_apply S0 argSlot lowV V.cells V.isAgg V.fits V.part partOk plains St.ret retSV svOf svsOf retQ retP retAll retOne uL_length uL_get? uL_get St.elems retH ownIdx ownAt
attribute [local simp] RunD_none RunD_some RunD_nil RunE_any acD_v acD_call agD_tt agD_ff agD_tf agD_ft agD_tup entsOf svref SO.opds SO.writes SO.makes callEnt pureSV pureOf RV.isOwn
attribute [local simp] abin_add abin_sub abin_mul abin_quo abin_rem abin_eql abin_neq abin_lss abin_leq abin_gtr abin_geq
attribute [local simp] uL_snoc uL_set uL_take uL_drop uL_append uL_replicate uL_nil
attribute [local simp] acK_callG acD_callG St.giv gsSV gvSV retEnts ownEnts SO.still
attribute [local simp] S0G argSlotG givSV retQG retPG retAllG retOneG HObj.width V.scalar trimQ V.byte
attribute [local simp] zv V.fits fillOk fillV Z_eq
theorem isZ_of {x : Int} {k : Nat} (h : zlen x ≤ k) : IsZ k (Z x) x := isZ_Z h

set_option maxHeartbeats 2000000 in
theorem law_ZintRing (n1 n2 n3 : Bool) (l1 l2 l3 : List Nat) (h1 : ZW (2 ^ 24) l1) (h2 : ZW (2 ^ 24) l2) (h3 : ZW (2 ^ 24) l3) :
    Spec Try.prog f_law02_ZintRing [zv n1 l1, zv n2 l2, zv n3 l3] (· = [.pure (.b true)]) := by
  have ia := isZ_zv (n := n1) h1
  have ib := isZ_zv (n := n2) h2
  have ic := isZ_zv (n := n3) h3
  have fw : Spec Try.prog f_law02_few [.i .i64 60, .sl (some 2) [zv n1 l1, zv n2 l2, zv n3 l3]] (· = [.pure (.b (fewB 60 [(n1, l1), (n2, l2), (n3, l3)]))]) := few2_three 60 (by omega) n1 n2 n3 l1 l2 l3
  have q1 := ia.zlen
  have q2 := ib.zlen
  have q3 := ic.zlen
  obtain ⟨x, hx⟩ : ∃ x, x = zi n1 l1 := ⟨_, rfl⟩
  obtain ⟨y, hy⟩ : ∃ x, x = zi n2 l2 := ⟨_, rfl⟩
  obtain ⟨z, hz⟩ : ∃ x, x = zi n3 l3 := ⟨_, rfl⟩
  rw [← hx] at ia q1
  rw [← hy] at ib q2
  rw [← hz] at ic q3
  have p1 := zlen_add x y
  have p2 := zlen_add y z
  have p3 := zlen_add (x + y) z
  have m1 := zlen_mul x y
  have m2 := zlen_mul y z
  have m3 := zlen_mul (x * y) z
  have m4 := zlen_mul x z
  have m5 := zlen_mul x (y + z)
  have p4 := zlen_neg x
  have a1 := zadd ia ib (by omega)
  have a2 := zadd ib ia (by omega)
  rw [Int.add_comm y x] at a2
  have b1 := zmul ia ib (by omega)
  have b2 := zmul ib ia (by omega)
  rw [Int.mul_comm y x] at b2
  have c1 := zadd (isZ_of (x := x + y) (k := 2 ^ 26) (by omega)) (ic.mono (by omega)) (by omega)
  have c2 := zadd ib ic (by omega)
  have c3 := zadd (ia.mono (by omega)) (isZ_of (x := y + z) (k := 2 ^ 26) (by omega)) (by omega)
  rw [← Int.add_assoc] at c3
  have d1 := zmul (isZ_of (x := x * y) (k := 2 ^ 26) (by omega)) (ic.mono (by omega)) (by omega)
  have d2 := zmul ib ic (by omega)
  have d3 := zmul (ia.mono (by omega)) (isZ_of (x := y * z) (k := 2 ^ 26) (by omega)) (by omega)
  rw [← Int.mul_assoc] at d3
  have g1 := zmul (ia.mono (by omega)) (isZ_of (x := y + z) (k := 2 ^ 26) (by omega)) (by omega)
  have g2 := zmul ia ic (by omega)
  have g3 := zadd (isZ_of (x := x * y) (k := 2 ^ 27) (by omega)) (isZ_of (x := x * z) (k := 2 ^ 27) (by omega)) (by omega)
  rw [← Int.mul_add] at g3
  have n1' := zneg ia (by omega)
  have n2' := zadd ia (isZ_of (x := -x) (k := 2 ^ 24) (by omega)) (by omega)
  rw [Int.add_right_neg] at n2'
  have o0 := zof 0 (by omega) (by omega)
  have o1 := zof 1 (by omega) (by omega)
  have u1 := zmul ia (isZ_of (x := 1) (k := 2 ^ 24) (by have := zlen_one; omega)) (by omega)
  rw [Int.mul_one] at u1
  have nm := znorm ia (by omega)
  have nn := zneg (isZ_of (x := -x) (k := 2 ^ 24) (by omega)) (by omega)
  rw [Int.neg_neg] at nn
  have e1 := same2 (x + y) (by omega)
  have e2 := same2 (x * y) (by omega)
  have e3 := same2 (x + y + z) (by omega)
  have e4 := same2 (x * y * z) (by omega)
  have e5 := same2 (x * (y + z)) (by omega)
  have e6 := same2 0 (by have := zlen_zero; omega)
  have e7 := same2 x (by omega)
  have aw := awake2
  refine spec_at Try.func15 ok_law02_ZintRing [] rfl (by simp) ?_
  unfold sc_law02_ZintRing
  cases hf : fewB 60 [(n1, l1), (n2, l2), (n3, l3)] with
  | false =>
    rw [hf] at fw
    refine WS_seq ?_
    refine WS_reg [] ?_
    simp
    refine WS_seq ?_
    refine WS_reg [] ?_
    simp
    refine callK aw ?_
    simp
    refine WS_seq ?_
    refine WS_seq ?_
    refine WS_reg [] ?_
    simp
    refine callK fw ?_
    simp
    refine WS_cond (t := true) (by simp) (fun _ => ?_) (fun h => by cases h)
    refine WS_seq ?_
    refine WS_reg [] ?_
    simp
    refine WS_ret ?_
    simp
  | true =>
    rw [hf] at fw
    refine WS_seq ?_
    refine WS_reg [] ?_
    simp
    refine WS_seq ?_
    refine WS_reg [] ?_
    simp
    refine callK aw ?_
    simp
    refine WS_seq ?_
    refine WS_seq ?_
    refine WS_reg [] ?_
    simp
    refine callK fw ?_
    simp
    refine WS_cond (t := false) (by simp) (fun h => by cases h) (fun _ => ?_)
    refine WS_skip ?_
    simp
    refine WS_seq ?_
    refine WS_reg [] ?_
    simp
    refine callK o0 ?_
    simp
    refine WS_seq ?_
    refine WS_regD [] ?_
    simp
    refine callD a1 rfl ?_
    simp
    refine callD a2 rfl ?_
    simp
    refine callD e1 rfl ?_
    simp
    refine callD b1 rfl ?_
    simp
    refine callD b2 rfl ?_
    simp
    refine callD e2 rfl ?_
    simp
    refine callD a1 rfl ?_
    simp
    refine callD c1 rfl ?_
    simp
    refine callD c2 rfl ?_
    simp
    refine callD c3 rfl ?_
    simp
    refine callD e3 rfl ?_
    simp
    refine callD b1 rfl ?_
    simp
    refine callD d1 rfl ?_
    simp
    refine callD d2 rfl ?_
    simp
    refine callD d3 rfl ?_
    simp
    refine callD e4 rfl ?_
    simp
    refine callD c2 rfl ?_
    simp
    refine callD g1 rfl ?_
    simp
    refine callD b1 rfl ?_
    simp
    refine callD g2 rfl ?_
    simp
    refine callD g3 rfl ?_
    simp
    refine callD e5 rfl ?_
    simp
    refine callD n1' rfl ?_
    simp
    refine callD n2' rfl ?_
    simp
    refine callD e6 rfl ?_
    simp
    refine callD o1 rfl ?_
    simp
    refine callD u1 rfl ?_
    simp
    refine callD nm rfl ?_
    simp
    refine callD e7 rfl ?_
    simp
    refine callD n1' rfl ?_
    simp
    refine callD nn rfl ?_
    simp
    refine callD nm rfl ?_
    simp
    refine callD e7 rfl ?_
    simp
    refine ⟨rfl, ?_⟩
    refine WS_ret ?_
    simp

theorem exactR_ex (x y : Int) : ∃ (q : Int) (e : Int), exactR x y = [.pure (Z q), .pure (.i .i64 e)] ∧ zlen q ≤ zlen x := by
  unfold exactR
  split
  · exact ⟨0, 3, rfl, by rw [zlen_zero]; omega⟩
  · split
    · exact ⟨_, _, rfl, zlen_ediv x y⟩
    · exact ⟨0, 4, rfl, by rw [zlen_zero]; omega⟩

set_option maxHeartbeats 1000000 in
theorem law_ZintDivides (n1 n2 : Bool) (l1 l2 : List Nat) (h1 : ZW (2 ^ 24) l1) (h2 : ZW (2 ^ 24) l2) :
    Spec Try.prog f_law02_ZintDivides [zv n1 l1, zv n2 l2] (· = [.pure (.b true)]) := by
  have ia := isZ_zv (n := n1) h1
  have ib := isZ_zv (n := n2) h2
  have fw : Spec Try.prog f_law02_few [.i .i64 40, .sl (some 2) [zv n1 l1, zv n2 l2]] (· = [.pure (.b (fewB 40 [(n1, l1), (n2, l2)]))]) := few2_two 40 (by omega) n1 n2 l1 l2
  have q1 := ia.zlen
  have q2 := ib.zlen
  obtain ⟨x, hx⟩ : ∃ x, x = zi n1 l1 := ⟨_, rfl⟩
  obtain ⟨y, hy⟩ : ∃ x, x = zi n2 l2 := ⟨_, rfl⟩
  rw [← hx] at ia q1
  rw [← hy] at ib q2
  have x1 := zexact ia ib (by omega)
  have x2 := rexact ia ib (by omega)
  obtain ⟨qe, ee, hE, hEl⟩ := exactR_ex x y
  rw [hE] at x1 x2
  obtain ⟨q, r, e, d1, d2, t1, t2⟩ : ∃ q r e : Int, Spec Try.prog f_zint_Div [zv n1 l1, zv n2 l2] (· = [.pure (Z q), .pure (Z r), .pure (.i .i64 e)]) ∧ Spec Try.prog f_ref02_Div [zv n1 l1, zv n2 l2] (· = [.pure (Z q), .pure (Z r), .pure (.i .i64 e)]) ∧ zlen q ≤ 2 ^ 24 ∧ zlen r ≤ 2 ^ 24 := by
    by_cases h0 : y = 0
    · subst h0
      exact ⟨0, 0, 3, zdiv_zero ia ib (by omega), rdivz_zero ia ib (by omega), by rw [zlen_zero]; omega, by rw [zlen_zero]; omega⟩
    · have t1 := zlen_ediv x y
      have t2 := zlen_emod x y h0
      exact ⟨x / y, x % y, 0, zdiv ia ib (by omega) h0, rdivz ia ib (by omega) h0, by omega, by omega⟩
  have e1 := same2 q (by omega)
  have e2 := same2 r (by omega)
  have e3 := same2 qe (by omega)
  have aw := awake2
  refine spec_at Try.func12 ok_law02_ZintDivides [] rfl (by simp) ?_
  unfold sc_law02_ZintDivides
  cases hf : fewB 40 [(n1, l1), (n2, l2)] with
  | false =>
    rw [hf] at fw
    refine WS_seq ?_
    refine WS_reg [] ?_
    simp
    refine WS_seq ?_
    refine WS_reg [] ?_
    simp
    refine callK aw ?_
    simp
    refine WS_seq ?_
    refine WS_seq ?_
    refine WS_reg [] ?_
    simp
    refine callK fw ?_
    simp
    refine WS_cond (t := true) (by simp) (fun _ => ?_) (fun h => by cases h)
    refine WS_seq ?_
    refine WS_reg [] ?_
    simp
    refine WS_ret ?_
    simp
  | true =>
    rw [hf] at fw
    refine WS_seq ?_
    refine WS_reg [] ?_
    simp
    refine WS_seq ?_
    refine WS_reg [] ?_
    simp
    refine callK aw ?_
    simp
    refine WS_seq ?_
    refine WS_seq ?_
    refine WS_reg [] ?_
    simp
    refine callK fw ?_
    simp
    refine WS_cond (t := false) (by simp) (fun h => by cases h) (fun _ => ?_)
    refine WS_skip ?_
    simp
    refine WS_seq ?_
    refine WS_reg [] ?_
    simp
    refine callK d1 ?_
    simp
    refine WS_seq ?_
    refine WS_reg [] ?_
    simp
    refine callK d2 ?_
    simp
    refine WS_seq ?_
    refine WS_reg [] ?_
    simp
    refine callK x1 ?_
    simp
    refine WS_seq ?_
    refine WS_reg [] ?_
    simp
    refine callK x2 ?_
    simp
    refine WS_seq ?_
    refine WS_reg [] ?_
    simp
    refine callK e1 ?_
    simp
    refine callK e2 ?_
    simp
    refine callK e3 ?_
    simp
    refine WS_ret ?_
    simp

set_option maxHeartbeats 1000000 in
theorem law_ZintRest (n1 n2 : Bool) (l1 l2 : List Nat) (h1 : ZW (2 ^ 24) l1) (h2 : ZW (2 ^ 24) l2) :
    Spec Try.prog f_law02_ZintRest [zv n1 l1, zv n2 l2] (· = [.pure (.b true)]) := by
  have ia := isZ_zv (n := n1) h1
  have ib := isZ_zv (n := n2) h2
  have fw : Spec Try.prog f_law02_few [.i .i64 100, .sl (some 2) [zv n1 l1, zv n2 l2]] (· = [.pure (.b (fewB 100 [(n1, l1), (n2, l2)]))]) := few2_two 100 (by omega) n1 n2 l1 l2
  have q1 := ia.zlen
  have q2 := ib.zlen
  obtain ⟨x, hx⟩ : ∃ x, x = zi n1 l1 := ⟨_, rfl⟩
  obtain ⟨y, hy⟩ : ∃ x, x = zi n2 l2 := ⟨_, rfl⟩
  rw [← hx] at ia q1
  rw [← hy] at ib q2
  have sgb := zsign ib (by omega)
  have aw := awake2
  refine spec_at Try.func17 ok_law02_ZintRest [] rfl (by simp) ?_
  unfold sc_law02_ZintRest
  cases hf : fewB 100 [(n1, l1), (n2, l2)] with
  | false =>
    rw [hf] at fw
    refine WS_seq ?_
    refine WS_reg [] ?_
    simp
    refine WS_seq ?_
    refine WS_reg [] ?_
    simp
    refine callK aw ?_
    simp
    refine WS_seq ?_
    refine WS_seq ?_
    refine WS_reg [] ?_
    simp
    refine callK fw ?_
    simp
    refine WS_cond (t := true) (by simp) (fun _ => ?_) (fun h => by cases h)
    refine WS_seq ?_
    refine WS_reg [] ?_
    simp
    refine WS_ret ?_
    simp
  | true =>
    rw [hf] at fw
    by_cases h0 : y = 0
    · have d0 := zdiv_zero ia (h0 ▸ ib) (by omega)
      rw [h0, Int.sign_zero] at sgb
      refine WS_seq ?_
      refine WS_reg [] ?_
      simp
      refine WS_seq ?_
      refine WS_reg [] ?_
      simp
      refine callK aw ?_
      simp
      refine WS_seq ?_
      refine WS_seq ?_
      refine WS_reg [] ?_
      simp
      refine callK fw ?_
      simp
      refine WS_cond (t := false) (by simp) (fun h => by cases h) (fun _ => ?_)
      refine WS_skip ?_
      simp
      refine WS_seq ?_
      refine WS_reg [] ?_
      simp
      refine callK d0 ?_
      simp
      refine WS_seq ?_
      refine WS_seq ?_
      refine WS_reg [] ?_
      simp
      refine callK sgb ?_
      simp
      refine WS_cond (t := true) (by simp) (fun _ => ?_) (fun h => by cases h)
      refine WS_seq ?_
      refine WS_reg [] ?_
      simp
      refine WS_ret ?_
      simp
    · have t1 := zlen_ediv x y
      have t2 := zlen_emod x y h0
      have t3 := zlen_mul x y
      have t4 := zlen_mul (x / y) y
      have dv := zdiv ia ib (by omega) h0
      have mu := zmul ia ib (by omega)
      have ex := zexact (isZ_of (x := x * y) (k := 2 ^ 26) (by omega)) (ib.mono (by omega)) (by omega)
      rw [exactR, if_neg h0, Int.mul_emod_left, if_pos rfl, Int.mul_ediv_cancel _ h0] at ex
      have hsg : y.sign ≠ 0 := by rw [Ne, Int.sign_eq_zero_iff_zero]; exact h0
      have mq := zmul (isZ_of (x := x / y) (k := 2 ^ 26) (by omega)) (ib.mono (by omega)) (by omega)
      have ad := zadd (isZ_of (x := x / y * y) (k := 2 ^ 28) (by omega)) (isZ_of (x := x % y) (k := 2 ^ 28) (by omega)) (by omega)
      rw [Int.ediv_mul_add_emod] at ad
      have hr0 := Int.emod_nonneg x h0
      have hrlt := Int.emod_lt x h0
      have c1 := zcmp (isZ_of (x := x % y) (k := 2 ^ 26) (by omega)) (ib.mono (by omega)) (by omega)
      have ng := zneg ib (by omega)
      have t5 := zlen_neg y
      have c2 := zcmp (isZ_of (x := x % y) (k := 2 ^ 26) (by omega)) (isZ_of (x := -y) (k := 2 ^ 26) (by omega)) (by omega)
      have nm := znorm ia (by omega)
      have e1 := same2 x (by omega)
      have sr := zsign (isZ_of (x := x % y) (k := 2 ^ 26) (by omega)) (by omega)
      have hsr : ¬ (x % y).sign < 0 := by
        rcases Int.lt_or_eq_of_le hr0 with h | h
        · rw [sign_gt h]; omega
        · rw [← h]; simp
      have hsr' : 0 ≤ (x % y).sign := by omega
      by_cases hy0 : 0 < y
      · rw [sign_lt (show x % y - y < 0 by omega)] at c1
        rw [sign_gt hy0] at sgb
        refine WS_seq ?_
        refine WS_reg [] ?_
        simp [hsr']
        refine WS_seq ?_
        refine WS_reg [] ?_
        simp [hsr']
        refine callK aw ?_
        simp [hsr']
        refine WS_seq ?_
        refine WS_seq ?_
        refine WS_reg [] ?_
        simp [hsr']
        refine callK fw ?_
        simp [hsr']
        refine WS_cond (t := false) (by simp [hsr']) (fun h => by cases h) (fun _ => ?_)
        refine WS_skip ?_
        simp [hsr']
        refine WS_seq ?_
        refine WS_reg [] ?_
        simp [hsr']
        refine callK dv ?_
        simp [hsr']
        refine WS_seq ?_
        refine WS_seq ?_
        refine WS_reg [] ?_
        simp [hsr']
        refine callK sgb ?_
        simp [hsr']
        refine WS_cond (t := false) (by simp [hsr']) (fun h => by cases h) (fun _ => ?_)
        refine WS_skip ?_
        simp [hsr']
        refine WS_seq ?_
        refine WS_regD [] ?_
        simp [hsr']
        refine callD mu rfl ?_
        simp [hsr']
        refine callD ex rfl ?_
        simp [hsr']
        refine ⟨rfl, ?_⟩
        refine WS_seq ?_
        refine WS_regD [] ?_
        simp [hsr']
        refine callD c1 rfl ?_
        simp [hsr']
        refine ⟨rfl, ?_⟩
        refine WS_seq ?_
        refine WS_regD [] ?_
        simp [hsr']
        refine callD mq rfl ?_
        simp [hsr']
        refine callD ad rfl ?_
        simp [hsr']
        refine callD nm rfl ?_
        simp [hsr']
        refine callD e1 rfl ?_
        simp [hsr']
        refine callD sr rfl ?_
        simp [hsr']
        refine callD nm rfl ?_
        simp [hsr']
        refine callD e1 rfl ?_
        simp [hsr']
        refine ⟨rfl, ?_⟩
        refine WS_ret ?_
        simp [hsr']
      · rw [sign_gt (show 0 < x % y - y by omega)] at c1
        rw [sign_lt (show y < 0 by omega)] at sgb
        rw [sign_lt (show x % y - -y < 0 by omega)] at c2
        refine WS_seq ?_
        refine WS_reg [] ?_
        simp [hsr']
        refine WS_seq ?_
        refine WS_reg [] ?_
        simp [hsr']
        refine callK aw ?_
        simp [hsr']
        refine WS_seq ?_
        refine WS_seq ?_
        refine WS_reg [] ?_
        simp [hsr']
        refine callK fw ?_
        simp [hsr']
        refine WS_cond (t := false) (by simp [hsr']) (fun h => by cases h) (fun _ => ?_)
        refine WS_skip ?_
        simp [hsr']
        refine WS_seq ?_
        refine WS_reg [] ?_
        simp [hsr']
        refine callK dv ?_
        simp [hsr']
        refine WS_seq ?_
        refine WS_seq ?_
        refine WS_reg [] ?_
        simp [hsr']
        refine callK sgb ?_
        simp [hsr']
        refine WS_cond (t := false) (by simp [hsr']) (fun h => by cases h) (fun _ => ?_)
        refine WS_skip ?_
        simp [hsr']
        refine WS_seq ?_
        refine WS_regD [] ?_
        simp [hsr']
        refine callD mu rfl ?_
        simp [hsr']
        refine callD ex rfl ?_
        simp [hsr']
        refine ⟨rfl, ?_⟩
        refine WS_seq ?_
        refine WS_regD [] ?_
        simp [hsr']
        refine callD c1 rfl ?_
        simp [hsr']
        refine callD ng rfl ?_
        simp [hsr']
        refine callD c2 rfl ?_
        simp [hsr']
        refine ⟨rfl, ?_⟩
        refine WS_seq ?_
        refine WS_regD [] ?_
        simp [hsr']
        refine callD mq rfl ?_
        simp [hsr']
        refine callD ad rfl ?_
        simp [hsr']
        refine callD nm rfl ?_
        simp [hsr']
        refine callD e1 rfl ?_
        simp [hsr']
        refine callD sr rfl ?_
        simp [hsr']
        refine callD nm rfl ?_
        simp [hsr']
        refine callD e1 rfl ?_
        simp [hsr']
        refine ⟨rfl, ?_⟩
        refine WS_ret ?_
        simp [hsr']
end Go.Vw
