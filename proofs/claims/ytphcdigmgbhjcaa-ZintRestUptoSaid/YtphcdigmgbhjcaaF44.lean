/- Div and Exact of both. -/
import Derived.Test.YtphcdigmgbhjcaaF43
set_option linter.unusedVariables false
set_option linter.unusedSimpArgs false
namespace Go.Vw
open Go.Proofs

/-- Euclid's quotient and rest out of those of the amounts. -/
theorem ediv_abs {a b : Int} {n1 n2 : Bool} {A B : Nat} (ha : a = if n1 then -(A : Int) else (A : Int)) (hb : b = if n2 then -(B : Int) else (B : Int)) (hB : B ≠ 0) :
    (n1 = true → A % B ≠ 0 → a / b = (if n1 != n2 then -((A / B + 1 : Nat) : Int) else ((A / B + 1 : Nat) : Int)) ∧ a % b = ((B - A % B : Nat) : Int)) ∧
    ((n1 = false ∨ A % B = 0) → a / b = (if n1 != n2 then -((A / B : Nat) : Int) else ((A / B : Nat) : Int)) ∧ a % b = ((A % B : Nat) : Int)) := by
  have hdm := Nat.div_add_mod A B
  have hlt := Nat.mod_lt A (Nat.pos_of_ne_zero hB)
  have key : ∀ (x q r : Int), r + (B : Int) * q = x → 0 ≤ r → r < B → x / B = q ∧ x % B = r := fun x q r h1 h2 h3 => (Int.ediv_emod_unique (by omega)).2 ⟨h1, h2, h3⟩
  have hAB : (A : Int) = (B : Int) * ((A / B : Nat) : Int) + ((A % B : Nat) : Int) := by
    rw [← Int.natCast_mul, ← Int.natCast_add, hdm]
  obtain ⟨q, hq⟩ : ∃ q, q = A / B := ⟨_, rfl⟩
  obtain ⟨r, hr⟩ : ∃ q, q = A % B := ⟨_, rfl⟩
  rw [← hq, ← hr] at hAB ⊢
  rw [← hr] at hlt
  refine ⟨fun h1 h2 => ?_, fun h => ?_⟩
  · subst h1
    simp only [if_true] at ha
    have := key a (-((q + 1 : Nat) : Int)) ((B - r : Nat) : Int) (by
      rw [ha, hAB, Int.natCast_add, Int.mul_neg, Int.mul_add]
      rw [Int.natCast_sub (by omega)]
      simp only [Int.natCast_one, Int.mul_one]
      omega) (by omega) (by omega)
    cases n2 with
    | false =>
      simp only [Bool.false_eq_true, if_false] at hb
      rw [hb]
      exact ⟨this.1, this.2⟩
    | true =>
      simp only [if_true] at hb
      rw [hb, Int.ediv_neg, Int.emod_neg]
      refine ⟨?_, this.2⟩
      rw [this.1]; simp
  · have : a / B = (if n1 then -((q : Nat) : Int) else (q : Int)) ∧ a % B = (r : Int) := by
      cases n1 with
      | false =>
        simp only [Bool.false_eq_true, if_false] at ha ⊢
        exact key a q r (by rw [ha, hAB]; omega) (by omega) (by omega)
      | true =>
        have hr0 : r = 0 := by rcases h with h | h; · cases h
                               · exact h
        simp only [if_true] at ha ⊢
        exact key a (-(q : Int)) r (by rw [ha, hAB, hr0, Int.mul_neg]; simp) (by omega) (by omega)
    cases n2 with
    | false =>
      simp only [Bool.false_eq_true, if_false] at hb
      rw [hb]
      refine ⟨?_, this.2⟩
      rw [this.1]
      cases n1 <;> simp
    | true =>
      simp only [if_true] at hb
      rw [hb, Int.ediv_neg, Int.emod_neg]
      refine ⟨?_, this.2⟩
      rw [this.1]
      cases n1 <;> simp

theorem ediv_natAbs_le (a b : Int) : (a / b).natAbs ≤ a.natAbs + 1 ∧ (b ≠ 0 → (a % b).natAbs < b.natAbs) := by
  refine ⟨?_, fun h => ?_⟩
  · have := Int.natAbs_ediv_le_natAbs a b
    omega
  · have h1 := Int.emod_nonneg a h
    have h2 := Int.emod_lt a h
    omega

theorem zlen_ediv (a b : Int) : zlen (a / b) ≤ zlen a := zlen_le (Int.natAbs_ediv_le_natAbs a b)
theorem zlen_emod (a b : Int) (h : b ≠ 0) : zlen (a % b) ≤ zlen b := zlen_le (Nat.le_of_lt ((ediv_natAbs_le a b).2 h))

attribute [local simp] RunL_cons RunL_nil AOp_none AOp_some acK_v acK_call agK_tt agK_ff agK_tf agK_ft agK_tup agK_i aop aun St.ev St.heap St.put thenQ blockQ upd_apply S0 argSlot lowV V.cells V.isAgg V.fits V.part partOk plains St.ret retSV svOf svsOf retQ retP retAll retOne uL_length uL_get? uL_get St.elems retH ownIdx ownAt
attribute [local simp] RunD_none RunD_some RunD_nil RunE_any acD_v acD_call agD_tt agD_ff agD_tf agD_ft agD_tup entsOf svref SO.opds SO.writes SO.makes callEnt pureSV pureOf RV.isOwn
attribute [local simp] abin_add abin_sub abin_mul abin_quo abin_rem abin_eql abin_neq abin_lss abin_leq abin_gtr abin_geq
attribute [local simp] uL_snoc uL_set uL_take uL_drop uL_append uL_replicate uL_nil
attribute [local simp] acK_callG acD_callG St.giv gsSV gvSV retEnts ownEnts SO.still
attribute [local simp] S0G argSlotG givSV retQG retPG retAllG retOneG HObj.width V.scalar trimQ V.byte
attribute [local simp] zv V.fits fillOk fillV Z_eq
theorem zdiv_zero {k : Nat} {v w : V} {x : Int} (hv : IsZ k v x) (hw : IsZ k w 0) (hk : k ≤ 2 ^ 35) : Spec Try.prog f_zint_Div [v, w] (· = [.pure (Z 0), .pure (Z 0), .pure (.i .i64 3)]) := by
  obtain ⟨n, l, rfl, h, hx⟩ := hv
  obtain ⟨n', l', rfl, h', hy⟩ := hw
  have c1 := h.len
  have c2 := h'.len
  have e0 : Nm.val 18446744073709551616 l' = 0 := by rw [← zi_abs n', hy]; rfl
  have dv := ndiv_zero l l' h.dl h'.dl (by omega) (by omega) e0
  refine spec_at Try.func58 ok_zint_Div [] rfl (by simp) ?_
  unfold sc_zint_Div
  refine WS_seq ?_
  refine WS_reg [] ?_
  simp [U, zn_false, zl_nil]
  refine WS_seq ?_
  refine WS_reg [] ?_
  simp [U, zn_false, zl_nil]
  refine callK dv ?_
  simp [U, zn_false, zl_nil]
  refine WS_seq ?_
  refine WS_seq ?_
  refine WS_reg [] ?_
  simp [U, zn_false, zl_nil]
  refine WS_cond (t := true) (by simp [U, zn_false, zl_nil]) (fun _ => ?_) (fun h => by cases h)
  refine WS_seq ?_
  refine WS_reg [] ?_
  simp [U, zn_false, zl_nil]
  refine WS_ret ?_
  simp [U, zn_false, zl_nil]

theorem zdiv {k : Nat} {v w : V} {x y : Int} (hv : IsZ k v x) (hw : IsZ k w y) (hk : k ≤ 2 ^ 35) (hy : y ≠ 0) : Spec Try.prog f_zint_Div [v, w] (· = [.pure (Z (x / y)), .pure (Z (x % y)), .pure (.i .i64 0)]) := by
  obtain ⟨n, l, rfl, h, rfl⟩ := hv
  obtain ⟨n', l', rfl, h', rfl⟩ := hw
  have c1 := h.len
  have c2 := h'.len
  have v1 := Nat.lt_of_lt_of_le (Nm.val_lt h.dl) (Nat.pow_le_pow_right (n := 18446744073709551616) (by omega) c1)
  have v2 := Nat.lt_of_lt_of_le (Nm.val_lt h'.dl) (Nat.pow_le_pow_right (n := 18446744073709551616) (by omega) c2)
  have h0 : Nm.val 18446744073709551616 l' ≠ 0 := by
    intro e
    refine hy ?_
    simp [zi, e]
  have dv := ndiv_spec l l' h.dl h'.dl (by omega) (by omega) h0
  obtain ⟨ed1, ed2⟩ := ediv_abs (a := zi n l) (b := zi n' l') (n1 := n) (n2 := n') (A := Nm.val 18446744073709551616 l) (B := Nm.val 18446744073709551616 l') rfl rfl h0
  have sb := fun (r : List Nat) (hr : Nm.Dl 18446744073709551616 r) (lr : r.length ≤ 2 ^ 40) => sub_spec l' r h'.dl hr (by omega) lr
  obtain ⟨A, hA⟩ : ∃ a, a = Nm.val 18446744073709551616 l := ⟨_, rfl⟩
  obtain ⟨B, hB⟩ : ∃ a, a = Nm.val 18446744073709551616 l' := ⟨_, rfl⟩
  rw [← hA] at v1 dv ed1 ed2
  rw [← hB] at v2 h0 dv ed1 ed2 sb
  have hml := Nat.mod_lt A (Nat.pos_of_ne_zero h0)
  have hq1 : A / B ≤ A := Nat.div_le_self _ _
  have mk : ∀ (n : Bool) (m : Nat), m < 18446744073709551616 ^ (k + 1) → Spec Try.prog f_zint_made [.b n, .sl none (uL (Nm.dig 18446744073709551616 m))] (· = [.pure (Z (if n then -(m : Int) else (m : Int)))]) := by
    intro n m hm
    have := made_spec n (Nm.dig 18446744073709551616 m) ((zw_dig hm).mono (by omega))
    rwa [zi, Nm.val_dig (by omega)] at this
  have hp1 : 18446744073709551616 ^ (k + 1) = 18446744073709551616 ^ k * 18446744073709551616 := Nat.pow_succ ..
  have lq := zw_dig (m := A / B) (k := k) (by omega)
  have lr := zw_dig (m := A % B) (k := k) (by omega)
  refine spec_at Try.func58 ok_zint_Div [] rfl (by simp) ?_
  unfold sc_zint_Div
  by_cases hc : n = true ∧ A % B ≠ 0
  · obtain ⟨rfl, hr⟩ := hc
    obtain ⟨eq, er⟩ := ed1 rfl hr
    rw [eq, er]
    have ad := add_spec (Nm.dig 18446744073709551616 (A / B)) [1] lq.dl (Nm.Dl.cons (by omega) (Nm.Dl.nil _)) (by have := lq.len; omega) (by simp)
    rw [Nm.val_dig (by omega), show Nm.val 18446744073709551616 [1] = 1 from rfl, show U [1] = .sl none [V.i .u64 1] from rfl] at ad
    have sb := sb _ lr.dl (by have := lr.len; omega)
    rw [Nm.val_dig (by omega), if_pos (by omega)] at sb
    have mq := mk (true != n') (A / B + 1) (by omega)
    have hb1 : (true != n') = !n' := by cases n' <;> rfl
    have mr := mk false (B - A % B) (by omega)
    have hrp := Nm.dig_length_pos (B := 18446744073709551616) (by omega) hr
    obtain ⟨q, hqd⟩ : ∃ a, a = A / B := ⟨_, rfl⟩
    obtain ⟨r, hrd⟩ : ∃ a, a = A % B := ⟨_, rfl⟩
    rw [← hqd] at dv ad mq ⊢
    rw [← hrd] at dv sb mr hrp ⊢
    obtain ⟨zq, hzq⟩ : ∃ z, z = (if (true != n') = true then -((q + 1 : Nat) : Int) else ((q + 1 : Nat) : Int)) := ⟨_, rfl⟩
    rw [← hzq] at mq ⊢
    obtain ⟨zr, hzr⟩ : ∃ z, z = ((B - r : Nat) : Int) := ⟨_, rfl⟩
    rw [if_neg (by simp), ← hzr] at mr
    rw [← hzr]
    clear hzq hzr
    rw [hb1] at mq
    refine WS_seq ?_
    refine WS_reg [] ?_
    simp [U, hrp]
    refine WS_seq ?_
    refine WS_reg [] ?_
    simp [U, hrp]
    refine callK dv ?_
    simp [U, hrp]
    refine WS_seq ?_
    refine WS_seq ?_
    refine WS_reg [] ?_
    simp [U, hrp]
    refine WS_cond (t := false) (by simp [U, hrp]) (fun h => by cases h) (fun _ => ?_)
    refine WS_skip ?_
    simp [U, hrp]
    refine WS_seq ?_
    refine WS_seq ?_
    refine WS_reg [] ?_
    simp [U, hrp]
    refine WS_cond (t := true) (by simp [U, hrp]) (fun _ => ?_) (fun h => by cases h)
    refine WS_seq ?_
    refine WS_reg [] ?_
    simp [U, hrp]
    refine callK ad ?_
    simp [U, hrp]
    refine WS_reg [] ?_
    simp [U, hrp]
    refine callK sb ?_
    simp [U, hrp]
    refine WS_seq ?_
    refine WS_reg [] ?_
    simp [U, hrp]
    refine callK mq ?_
    simp [U, hrp]
    refine callK mr ?_
    simp [U, hrp]
    refine WS_ret ?_
    simp [U, hrp]
  · obtain ⟨eq, er⟩ := ed2 (by
      by_cases h1 : n = true
      · exact .inr (Decidable.not_not.1 fun h2 => hc ⟨h1, h2⟩)
      · exact .inl (by simpa using h1))
    rw [eq, er]
    have mq := mk (n != n') (A / B) (by omega)
    have mr := mk false (A % B) (by omega)
    have hrp : n = true → Nm.dig 18446744073709551616 (A % B) = [] := fun h1 => by rw [Nm.dig_nil (by omega)]; exact Decidable.not_not.1 fun h2 => hc ⟨h1, h2⟩
    obtain ⟨q, hqd⟩ : ∃ a, a = A / B := ⟨_, rfl⟩
    obtain ⟨r, hrd⟩ : ∃ a, a = A % B := ⟨_, rfl⟩
    rw [← hqd] at dv mq ⊢
    rw [← hrd] at dv mr hrp ⊢
    obtain ⟨zq, hzq⟩ : ∃ z, z = (if (n != n') = true then -((q : Nat) : Int) else ((q : Nat) : Int)) := ⟨_, rfl⟩
    rw [← hzq] at mq ⊢
    obtain ⟨zr, hzr⟩ : ∃ z, z = ((r : Nat) : Int) := ⟨_, rfl⟩
    rw [if_neg (by simp), ← hzr] at mr
    rw [← hzr]
    clear hzq hzr
    cases n with
    | true =>
      have hrp := hrp rfl
      rw [hrp, uL_nil] at mr
      rw [hrp] at dv
      rw [show (true != n') = !n' by cases n' <;> rfl] at mq
      refine WS_seq ?_
      refine WS_reg [] ?_
      simp [U]
      refine WS_seq ?_
      refine WS_reg [] ?_
      simp [U]
      refine callK dv ?_
      simp [U]
      refine WS_seq ?_
      refine WS_seq ?_
      refine WS_reg [] ?_
      simp [U]
      refine WS_cond (t := false) (by simp [U]) (fun h => by cases h) (fun _ => ?_)
      refine WS_skip ?_
      simp [U]
      refine WS_seq ?_
      refine WS_seq ?_
      refine WS_reg [] ?_
      simp [U]
      refine WS_cond (t := false) (by simp [U]) (fun h => by cases h) (fun _ => ?_)
      refine WS_skip ?_
      simp [U]
      refine WS_seq ?_
      refine WS_reg [] ?_
      simp [U]
      refine callK mq ?_
      simp [U]
      refine callK mr ?_
      simp [U]
      refine WS_ret ?_
      simp [U]
    | false =>
      rw [show (false != n') = n' by cases n' <;> rfl] at mq
      refine WS_seq ?_
      refine WS_reg [] ?_
      simp [U]
      refine WS_seq ?_
      refine WS_reg [] ?_
      simp [U]
      refine callK dv ?_
      simp [U]
      refine WS_seq ?_
      refine WS_seq ?_
      refine WS_reg [] ?_
      simp [U]
      refine WS_cond (t := false) (by simp [U]) (fun h => by cases h) (fun _ => ?_)
      refine WS_skip ?_
      simp [U]
      refine WS_seq ?_
      refine WS_seq ?_
      refine WS_reg [] ?_
      simp [U]
      refine WS_cond (t := false) (by simp [U]) (fun h => by cases h) (fun _ => ?_)
      refine WS_skip ?_
      simp [U]
      refine WS_seq ?_
      refine WS_reg [] ?_
      simp [U]
      refine callK mq ?_
      simp [U]
      refine callK mr ?_
      simp [U]
      refine WS_ret ?_
      simp [U]
theorem rdivz_zero {k : Nat} {v w : V} {x : Int} (hv : IsZ k v x) (hw : IsZ k w 0) (hk : k ≤ 2 ^ 34) : Spec Try.prog f_ref02_Div [v, w] (· = [.pure (Z 0), .pure (Z 0), .pure (.i .i64 3)]) := by
  obtain ⟨n, l, rfl, h, hx⟩ := hv
  obtain ⟨n', l', rfl, h', hy⟩ := hw
  have c1 := h.len
  have c2 := h'.len
  have e0 : Nm.val 18446744073709551616 l' = 0 := by rw [← zi_abs n', hy]; rfl
  have dv := rdiv_zero l l' h'.dl (by omega) e0
  refine spec_at Try.func59 ok_ref02_Div [] rfl (by simp) ?_
  unfold sc_ref02_Div
  refine WS_seq ?_
  refine WS_reg [] ?_
  simp [U, zn_false, zl_nil]
  refine WS_seq ?_
  refine WS_reg [] ?_
  simp [U, zn_false, zl_nil]
  refine callK dv ?_
  simp [U, zn_false, zl_nil]
  refine WS_seq ?_
  refine WS_seq ?_
  refine WS_reg [] ?_
  simp [U, zn_false, zl_nil]
  refine WS_cond (t := true) (by simp [U, zn_false, zl_nil]) (fun _ => ?_) (fun h => by cases h)
  refine WS_seq ?_
  refine WS_reg [] ?_
  simp [U, zn_false, zl_nil]
  refine WS_ret ?_
  simp [U, zn_false, zl_nil]

theorem rdivz {k : Nat} {v w : V} {x y : Int} (hv : IsZ k v x) (hw : IsZ k w y) (hk : k ≤ 2 ^ 34) (hy : y ≠ 0) : Spec Try.prog f_ref02_Div [v, w] (· = [.pure (Z (x / y)), .pure (Z (x % y)), .pure (.i .i64 0)]) := by
  obtain ⟨n, l, rfl, h, rfl⟩ := hv
  obtain ⟨n', l', rfl, h', rfl⟩ := hw
  have c1 := h.len
  have c2 := h'.len
  have v1 := Nat.lt_of_lt_of_le (Nm.val_lt h.dl) (Nat.pow_le_pow_right (n := 18446744073709551616) (by omega) c1)
  have v2 := Nat.lt_of_lt_of_le (Nm.val_lt h'.dl) (Nat.pow_le_pow_right (n := 18446744073709551616) (by omega) c2)
  have h0 : Nm.val 18446744073709551616 l' ≠ 0 := by
    intro e
    refine hy ?_
    simp [zi, e]
  have dv := rdiv_spec l l' h.dl h'.dl (by omega) (by omega) h0
  obtain ⟨ed1, ed2⟩ := ediv_abs (a := zi n l) (b := zi n' l') (n1 := n) (n2 := n') (A := Nm.val 18446744073709551616 l) (B := Nm.val 18446744073709551616 l') rfl rfl h0
  have sb := fun (r : List Nat) (hr : Nm.Dl 18446744073709551616 r) (lr : r.length ≤ 2 ^ 38) => rsub_spec l' r h'.dl hr (by omega) lr
  obtain ⟨A, hA⟩ : ∃ a, a = Nm.val 18446744073709551616 l := ⟨_, rfl⟩
  obtain ⟨B, hB⟩ : ∃ a, a = Nm.val 18446744073709551616 l' := ⟨_, rfl⟩
  rw [← hA] at v1 dv ed1 ed2
  rw [← hB] at v2 h0 dv ed1 ed2 sb
  have hml := Nat.mod_lt A (Nat.pos_of_ne_zero h0)
  have hq1 : A / B ≤ A := Nat.div_le_self _ _
  have mk : ∀ (n : Bool) (m : Nat), m < 18446744073709551616 ^ (k + 1) → Spec Try.prog f_ref02_Norm [.agg [.b n, .sl none (uL (Nm.dig 18446744073709551616 m))]] (· = [.pure (Z (if n then -(m : Int) else (m : Int)))]) := by
    intro n m hm
    have := rnorm (isZ_zv (n := n) ((zw_dig hm).mono (show k + 1 ≤ 2 ^ 40 by omega))) (Nat.le_refl _)
    rwa [zi, Nm.val_dig (by omega)] at this
  have hp1 : 18446744073709551616 ^ (k + 1) = 18446744073709551616 ^ k * 18446744073709551616 := Nat.pow_succ ..
  have lq := zw_dig (m := A / B) (k := k) (by omega)
  have lr := zw_dig (m := A % B) (k := k) (by omega)
  refine spec_at Try.func59 ok_ref02_Div [] rfl (by simp) ?_
  unfold sc_ref02_Div
  by_cases hc : n = true ∧ A % B ≠ 0
  · obtain ⟨rfl, hr⟩ := hc
    obtain ⟨eq, er⟩ := ed1 rfl hr
    rw [eq, er]
    have ad := radd_spec (Nm.dig 18446744073709551616 (A / B)) [1] lq.dl (Nm.Dl.cons (by omega) (Nm.Dl.nil _)) (by have := lq.len; omega) (by simp)
    rw [Nm.val_dig (by omega), show Nm.val 18446744073709551616 [1] = 1 from rfl, show U [1] = .sl none [V.i .u64 1] from rfl] at ad
    have sb := sb _ lr.dl (by have := lr.len; omega)
    rw [Nm.val_dig (by omega), if_pos (by omega)] at sb
    have mq := mk (true != n') (A / B + 1) (by omega)
    have hb1 : (true != n') = !n' := by cases n' <;> rfl
    have mr := mk false (B - A % B) (by omega)
    have hrp := Nm.dig_length_pos (B := 18446744073709551616) (by omega) hr
    obtain ⟨q, hqd⟩ : ∃ a, a = A / B := ⟨_, rfl⟩
    obtain ⟨r, hrd⟩ : ∃ a, a = A % B := ⟨_, rfl⟩
    rw [← hqd] at dv ad mq ⊢
    rw [← hrd] at dv sb mr hrp ⊢
    obtain ⟨zq, hzq⟩ : ∃ z, z = (if (true != n') = true then -((q + 1 : Nat) : Int) else ((q + 1 : Nat) : Int)) := ⟨_, rfl⟩
    rw [← hzq] at mq ⊢
    obtain ⟨zr, hzr⟩ : ∃ z, z = ((B - r : Nat) : Int) := ⟨_, rfl⟩
    rw [if_neg (by simp), ← hzr] at mr
    rw [← hzr]
    clear hzq hzr
    rw [hb1] at mq
    refine WS_seq ?_
    refine WS_reg [] ?_
    simp [U, hrp]
    refine WS_seq ?_
    refine WS_reg [] ?_
    simp [U, hrp]
    refine callK dv ?_
    simp [U, hrp]
    refine WS_seq ?_
    refine WS_seq ?_
    refine WS_reg [] ?_
    simp [U, hrp]
    refine WS_cond (t := false) (by simp [U, hrp]) (fun h => by cases h) (fun _ => ?_)
    refine WS_skip ?_
    simp [U, hrp]
    refine WS_seq ?_
    refine WS_seq ?_
    refine WS_reg [] ?_
    simp [U, hrp]
    refine WS_cond (t := true) (by simp [U, hrp]) (fun _ => ?_) (fun h => by cases h)
    refine WS_seq ?_
    refine WS_reg [] ?_
    simp [U, hrp]
    refine callK ad ?_
    simp [U, hrp]
    refine WS_reg [] ?_
    simp [U, hrp]
    refine callK sb ?_
    simp [U, hrp]
    refine WS_seq ?_
    refine WS_reg [] ?_
    simp [U, hrp]
    refine callK mq ?_
    simp [U, hrp]
    refine callK mr ?_
    simp [U, hrp]
    refine WS_ret ?_
    simp [U, hrp]
  · obtain ⟨eq, er⟩ := ed2 (by
      by_cases h1 : n = true
      · exact .inr (Decidable.not_not.1 fun h2 => hc ⟨h1, h2⟩)
      · exact .inl (by simpa using h1))
    rw [eq, er]
    have mq := mk (n != n') (A / B) (by omega)
    have mr := mk false (A % B) (by omega)
    have hrp : n = true → Nm.dig 18446744073709551616 (A % B) = [] := fun h1 => by rw [Nm.dig_nil (by omega)]; exact Decidable.not_not.1 fun h2 => hc ⟨h1, h2⟩
    obtain ⟨q, hqd⟩ : ∃ a, a = A / B := ⟨_, rfl⟩
    obtain ⟨r, hrd⟩ : ∃ a, a = A % B := ⟨_, rfl⟩
    rw [← hqd] at dv mq ⊢
    rw [← hrd] at dv mr hrp ⊢
    obtain ⟨zq, hzq⟩ : ∃ z, z = (if (n != n') = true then -((q : Nat) : Int) else ((q : Nat) : Int)) := ⟨_, rfl⟩
    rw [← hzq] at mq ⊢
    obtain ⟨zr, hzr⟩ : ∃ z, z = ((r : Nat) : Int) := ⟨_, rfl⟩
    rw [if_neg (by simp), ← hzr] at mr
    rw [← hzr]
    clear hzq hzr
    cases n with
    | true =>
      have hrp := hrp rfl
      rw [hrp, uL_nil] at mr
      rw [hrp] at dv
      rw [show (true != n') = !n' by cases n' <;> rfl] at mq
      refine WS_seq ?_
      refine WS_reg [] ?_
      simp [U]
      refine WS_seq ?_
      refine WS_reg [] ?_
      simp [U]
      refine callK dv ?_
      simp [U]
      refine WS_seq ?_
      refine WS_seq ?_
      refine WS_reg [] ?_
      simp [U]
      refine WS_cond (t := false) (by simp [U]) (fun h => by cases h) (fun _ => ?_)
      refine WS_skip ?_
      simp [U]
      refine WS_seq ?_
      refine WS_seq ?_
      refine WS_reg [] ?_
      simp [U]
      refine WS_cond (t := false) (by simp [U]) (fun h => by cases h) (fun _ => ?_)
      refine WS_skip ?_
      simp [U]
      refine WS_seq ?_
      refine WS_reg [] ?_
      simp [U]
      refine callK mq ?_
      simp [U]
      refine callK mr ?_
      simp [U]
      refine WS_ret ?_
      simp [U]
    | false =>
      rw [show (false != n') = n' by cases n' <;> rfl] at mq
      refine WS_seq ?_
      refine WS_reg [] ?_
      simp [U]
      refine WS_seq ?_
      refine WS_reg [] ?_
      simp [U]
      refine callK dv ?_
      simp [U]
      refine WS_seq ?_
      refine WS_seq ?_
      refine WS_reg [] ?_
      simp [U]
      refine WS_cond (t := false) (by simp [U]) (fun h => by cases h) (fun _ => ?_)
      refine WS_skip ?_
      simp [U]
      refine WS_seq ?_
      refine WS_seq ?_
      refine WS_reg [] ?_
      simp [U]
      refine WS_cond (t := false) (by simp [U]) (fun h => by cases h) (fun _ => ?_)
      refine WS_skip ?_
      simp [U]
      refine WS_seq ?_
      refine WS_reg [] ?_
      simp [U]
      refine callK mq ?_
      simp [U]
      refine callK mr ?_
      simp [U]
      refine WS_ret ?_
      simp [U]

def exactR (x y : Int) : List RV := if y = 0 then [.pure (Z 0), .pure (.i .i64 3)] else if x % y = 0 then [.pure (Z (x / y)), .pure (.i .i64 0)] else [.pure (Z 0), .pure (.i .i64 4)]

theorem zexact {k : Nat} {v w : V} {x y : Int} (hv : IsZ k v x) (hw : IsZ k w y) (hk : k ≤ 2 ^ 35) : Spec Try.prog f_zint_Exact [v, w] (· = exactR x y) := by
  by_cases h0 : y = 0
  · subst h0
    have dv := zdiv_zero hv hw hk
    rw [exactR, if_pos rfl]
    obtain ⟨n, l, rfl, h, rfl⟩ := hv
    obtain ⟨n', l', rfl, h', hy⟩ := hw
    simp only [zv] at dv
    refine spec_at Try.func60 ok_zint_Exact [] rfl (by simp) ?_
    unfold sc_zint_Exact
    refine WS_seq ?_
    refine WS_reg [] ?_
    simp [zn_false, zl_nil]
    refine WS_seq ?_
    refine WS_reg [] ?_
    simp [zn_false, zl_nil]
    refine callK dv ?_
    simp [zn_false, zl_nil]
    refine WS_seq ?_
    refine WS_block ?_
    refine WS_seq ?_
    refine WS_reg [] ?_
    simp [zn_false, zl_nil]
    refine WS_cond (t := true) (by simp [zn_false, zl_nil]) (fun _ => ?_) (fun h => by cases h)
    refine WS_seq ?_
    refine WS_reg [] ?_
    simp [zn_false, zl_nil]
    refine WS_ret ?_
    simp [zn_false, zl_nil]
  · have dv := zdiv hv hw hk h0
    have hlr := zlen_emod x y h0
    have hy := hw.zlen
    have sg := zsign (isZ_Z (z := x % y) (k := k) (by omega)) (by omega)
    rw [exactR, if_neg h0]
    obtain ⟨n, l, rfl, h, rfl⟩ := hv
    obtain ⟨n', l', rfl, h', rfl⟩ := hw
    simp only [zv] at dv
    have hnn := Int.emod_nonneg (zi n l) h0
    obtain ⟨q, hq⟩ : ∃ q, q = zi n l / zi n' l' := ⟨_, rfl⟩
    obtain ⟨r, hr⟩ : ∃ q, q = zi n l % zi n' l' := ⟨_, rfl⟩
    rw [← hq, ← hr] at dv ⊢
    rw [← hr] at sg hnn
    refine spec_at Try.func60 ok_zint_Exact [] rfl (by simp) ?_
    unfold sc_zint_Exact
    by_cases hr0 : r = 0
    · rw [if_pos hr0]
      rw [hr0, Int.sign_zero] at sg
      rw [hr0] at dv
      refine WS_seq ?_
      refine WS_reg [] ?_
      simp
      refine WS_seq ?_
      refine WS_reg [] ?_
      simp
      refine callK dv ?_
      simp
      refine WS_seq ?_
      refine WS_block ?_
      refine WS_seq ?_
      refine WS_reg [] ?_
      simp
      refine WS_cond (t := false) (by simp) (fun h => by cases h) (fun _ => ?_)
      refine WS_seq ?_
      refine WS_reg [] ?_
      simp
      refine callK sg ?_
      simp
      refine WS_cond (t := false) (by simp) (fun h => by cases h) (fun _ => ?_)
      refine WS_skip ?_
      simp
      refine WS_seq ?_
      refine WS_reg [] ?_
      simp
      refine WS_ret ?_
      simp
    · rw [if_neg hr0]
      rw [sign_gt (by omega)] at sg
      refine WS_seq ?_
      refine WS_reg [] ?_
      simp [zn_false, zl_nil]
      refine WS_seq ?_
      refine WS_reg [] ?_
      simp [zn_false, zl_nil]
      refine callK dv ?_
      simp [zn_false, zl_nil]
      refine WS_seq ?_
      refine WS_block ?_
      refine WS_seq ?_
      refine WS_reg [] ?_
      simp [zn_false, zl_nil]
      refine WS_cond (t := false) (by simp [zn_false, zl_nil]) (fun h => by cases h) (fun _ => ?_)
      refine WS_seq ?_
      refine WS_reg [] ?_
      simp [zn_false, zl_nil]
      refine callK sg ?_
      simp [zn_false, zl_nil]
      refine WS_cond (t := true) (by simp [zn_false, zl_nil]) (fun _ => ?_) (fun h => by cases h)
      refine WS_seq ?_
      refine WS_reg [] ?_
      simp [zn_false, zl_nil]
      refine WS_ret ?_
      simp [zn_false, zl_nil]

theorem rexact {k : Nat} {v w : V} {x y : Int} (hv : IsZ k v x) (hw : IsZ k w y) (hk : k ≤ 2 ^ 34) : Spec Try.prog f_ref02_Exact [v, w] (· = exactR x y) := by
  by_cases h0 : y = 0
  · subst h0
    have dv := rdivz_zero hv hw hk
    rw [exactR, if_pos rfl]
    obtain ⟨n, l, rfl, h, rfl⟩ := hv
    obtain ⟨n', l', rfl, h', hy⟩ := hw
    simp only [zv] at dv
    refine spec_at Try.func61 ok_ref02_Exact [] rfl (by simp) ?_
    unfold sc_ref02_Exact
    refine WS_seq ?_
    refine WS_reg [] ?_
    simp [zn_false, zl_nil]
    refine WS_seq ?_
    refine WS_reg [] ?_
    simp [zn_false, zl_nil]
    refine callK dv ?_
    simp [zn_false, zl_nil]
    refine WS_seq ?_
    refine WS_seq ?_
    refine WS_reg [] ?_
    simp [zn_false, zl_nil]
    refine WS_cond (t := true) (by simp [zn_false, zl_nil]) (fun _ => ?_) (fun h => by cases h)
    refine WS_seq ?_
    refine WS_reg [] ?_
    simp [zn_false, zl_nil]
    refine WS_ret ?_
    simp [zn_false, zl_nil]
  · have dv := rdivz hv hw hk h0
    have hlr := zlen_emod x y h0
    have hy := hw.zlen
    have sg := rsign (isZ_Z (z := x % y) (k := k) (by omega)) (by omega)
    rw [exactR, if_neg h0]
    obtain ⟨n, l, rfl, h, rfl⟩ := hv
    obtain ⟨n', l', rfl, h', rfl⟩ := hw
    simp only [zv] at dv
    have hnn := Int.emod_nonneg (zi n l) h0
    obtain ⟨q, hq⟩ : ∃ q, q = zi n l / zi n' l' := ⟨_, rfl⟩
    obtain ⟨r, hr⟩ : ∃ q, q = zi n l % zi n' l' := ⟨_, rfl⟩
    rw [← hq, ← hr] at dv ⊢
    rw [← hr] at sg hnn
    refine spec_at Try.func61 ok_ref02_Exact [] rfl (by simp) ?_
    unfold sc_ref02_Exact
    by_cases hr0 : r = 0
    · rw [if_pos hr0]
      rw [hr0, Int.sign_zero] at sg
      rw [hr0] at dv
      refine WS_seq ?_
      refine WS_reg [] ?_
      simp
      refine WS_seq ?_
      refine WS_reg [] ?_
      simp
      refine callK dv ?_
      simp
      refine WS_seq ?_
      refine WS_seq ?_
      refine WS_reg [] ?_
      simp
      refine WS_cond (t := false) (by simp) (fun h => by cases h) (fun _ => ?_)
      refine WS_skip ?_
      simp
      refine WS_seq ?_
      refine WS_seq ?_
      refine WS_reg [] ?_
      simp
      refine callK sg ?_
      simp
      refine WS_cond (t := false) (by simp) (fun h => by cases h) (fun _ => ?_)
      refine WS_skip ?_
      simp
      refine WS_seq ?_
      refine WS_reg [] ?_
      simp
      refine WS_ret ?_
      simp
    · rw [if_neg hr0]
      rw [sign_gt (by omega)] at sg
      refine WS_seq ?_
      refine WS_reg [] ?_
      simp [zn_false, zl_nil]
      refine WS_seq ?_
      refine WS_reg [] ?_
      simp [zn_false, zl_nil]
      refine callK dv ?_
      simp [zn_false, zl_nil]
      refine WS_seq ?_
      refine WS_seq ?_
      refine WS_reg [] ?_
      simp [zn_false, zl_nil]
      refine WS_cond (t := false) (by simp [zn_false, zl_nil]) (fun h => by cases h) (fun _ => ?_)
      refine WS_skip ?_
      simp [zn_false, zl_nil]
      refine WS_seq ?_
      refine WS_seq ?_
      refine WS_reg [] ?_
      simp [zn_false, zl_nil]
      refine callK sg ?_
      simp [zn_false, zl_nil]
      refine WS_cond (t := true) (by simp [zn_false, zl_nil]) (fun _ => ?_) (fun h => by cases h)
      refine WS_seq ?_
      refine WS_reg [] ?_
      simp [zn_false, zl_nil]
      refine WS_ret ?_
      simp [zn_false, zl_nil]
end Go.Vw
