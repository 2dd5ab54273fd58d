/- cleaverref02's Norm, Of, Sign, Neg, Add, Sub, Cmp, Mul, Abs, Same; Small. -/
import Derived.Test.YtphcdigmgbhjcaaF41
set_option linter.unusedVariables false
set_option linter.unusedSimpArgs false
namespace Go.Vw
open Go.Proofs

attribute [local simp] RunL_cons RunL_nil AOp_none AOp_some acK_v acK_call agK_tt agK_ff agK_tf agK_ft agK_tup agK_i aop aun St.ev St.heap St.put thenQ blockQ upd_apply S0 argSlot lowV V.cells V.isAgg V.fits V.part partOk plains St.ret retSV svOf svsOf retQ retP retAll retOne uL_length uL_get? uL_get St.elems retH ownIdx ownAt
attribute [local simp] RunD_none RunD_some RunD_nil RunE_any acD_v acD_call agD_tt agD_ff agD_tf agD_ft agD_tup entsOf svref SO.opds SO.writes SO.makes callEnt pureSV pureOf RV.isOwn
attribute [local simp] abin_add abin_sub abin_mul abin_quo abin_rem abin_eql abin_neq abin_lss abin_leq abin_gtr abin_geq
attribute [local simp] uL_snoc uL_set uL_take uL_drop uL_append uL_replicate uL_nil
attribute [local simp] acK_callG acD_callG St.giv gsSV gvSV retEnts ownEnts SO.still
attribute [local simp] S0G argSlotG givSV retQG retPG retAllG retOneG HObj.width V.scalar trimQ V.byte
attribute [local simp] zv V.fits fillOk fillV Z_eq
theorem rnorm {k : Nat} {v : V} {x : Int} (hv : IsZ k v x) (hk : k ≤ 2 ^ 40) : Spec Try.prog f_ref02_Norm [v] (· = [.pure (Z x)]) := by
  obtain ⟨n, l, rfl, h, rfl⟩ := hv
  have h := h.mono hk
  refine spec_at Try.func79 ok_ref02_Norm [] rfl (by simp) ?_
  unfold sc_ref02_Norm
  have nn := rnorm_spec l h.len
  have e1 := zl_zi n h.dl
  have e2 := zn_zi n h.dl
  rw [Z_eq, e1, e2]
  obtain ⟨t, ht⟩ : ∃ t, t = Nm.trim l := ⟨_, rfl⟩
  rw [← ht] at nn ⊢
  cases n
  · refine WS_seq ?_
    refine WS_reg [] ?_
    simp [U]
    refine WS_seq ?_
    refine WS_reg [] ?_
    simp [U]
    refine callK nn ?_
    simp [U]
    refine WS_seq ?_
    refine WS_reg [] ?_
    simp [U]
    refine WS_ret ?_
    simp [U]
  · refine WS_seq ?_
    refine WS_reg [] ?_
    simp [U]
    refine WS_seq ?_
    refine WS_reg [] ?_
    simp [U]
    refine callK nn ?_
    simp [U]
    refine WS_seq ?_
    refine WS_reg [] ?_
    simp [U]
    refine WS_ret ?_
    simp [U]

theorem rneg {k : Nat} {v : V} {x : Int} (hv : IsZ k v x) (hk : k ≤ 2 ^ 40) : Spec Try.prog f_ref02_Neg [v] (· = [.pure (Z (-x))]) := by
  obtain ⟨n, l, rfl, h, rfl⟩ := hv
  have nn := rnorm (isZ_zv (n := !n) h) hk
  rw [show zi (!n) l = -zi n l by cases n <;> simp [zi]] at nn
  simp only [zv] at nn
  refine spec_at Try.func78 ok_ref02_Neg [] rfl (by simp) ?_
  unfold sc_ref02_Neg
  refine WS_seq ?_
  refine WS_reg [] ?_
  simp
  refine WS_seq ?_
  refine WS_reg [] ?_
  simp
  refine callK nn ?_
  simp
  refine WS_ret ?_
  simp

theorem rabs {k : Nat} {v : V} {x : Int} (hv : IsZ k v x) (hk : k ≤ 2 ^ 40) : Spec Try.prog f_ref02_Abs [v] (· = [.pure (Z (x.natAbs : Int))]) := by
  obtain ⟨n, l, rfl, h, rfl⟩ := hv
  have nn := rnorm (isZ_zv (n := false) h) hk
  rw [show zi false l = ((zi n l).natAbs : Int) by rw [zi_abs]; rfl] at nn
  simp only [zv] at nn
  refine spec_at Try.func156 ok_ref02_Abs [] rfl (by simp) ?_
  unfold sc_ref02_Abs
  refine WS_seq ?_
  refine WS_reg [] ?_
  simp
  refine WS_seq ?_
  refine WS_reg [] ?_
  simp
  refine callK nn ?_
  simp
  refine WS_ret ?_
  simp

theorem rof (n : Int) (h1 : -9223372036854775808 ≤ n) (h2 : n ≤ 9223372036854775807) : Spec Try.prog f_ref02_Of [.i .i64 n] (· = [.pure (Z n)]) := by
  refine spec_at Try.func84 ok_ref02_Of [] rfl (by simp) ?_
  unfold sc_ref02_Of
  have hd : ZW (2 ^ 40) [n.natAbs] := ⟨Nm.Dl.cons (by omega) (Nm.Dl.nil _), by simp⟩
  by_cases h : n < 0
  · have mk := rnorm (isZ_zv (n := true) hd) (Nat.le_refl _)
    rw [show zi true [n.natAbs] = n by simp [zi, Nm.val]; omega] at mk
    simp only [zv, show uL [n.natAbs] = [V.i .u64 (n.natAbs : Int)] from rfl] at mk
    have e : IntKind.u64.wrap (IntKind.i64.wrap (-n)) = (n.natAbs : Int) := by rw [IntKind.wrap_u64, IntKind.wrap_i64]; omega
    refine WS_seq ?_
    refine WS_reg [] ?_
    simp [h, e]
    refine WS_seq ?_
    refine WS_seq ?_
    refine WS_reg [] ?_
    simp [h, e]
    refine WS_cond (t := true) (by simp [h, e]) (fun _ => ?_) (fun h => by cases h)
    refine WS_seq ?_
    refine WS_reg [] ?_
    simp [h, e]
    refine callK mk ?_
    simp [h, e]
    refine WS_ret ?_
    simp [h, e]
  · have mk := rnorm (isZ_zv (n := false) hd) (Nat.le_refl _)
    rw [show zi false [n.natAbs] = n by simp [zi, Nm.val]; omega] at mk
    simp only [zv, show uL [n.natAbs] = [V.i .u64 (n.natAbs : Int)] from rfl] at mk
    have e := u64_i64 (by omega) h2
    refine WS_seq ?_
    refine WS_reg [] ?_
    simp [h, e]
    refine WS_seq ?_
    refine WS_seq ?_
    refine WS_reg [] ?_
    simp [h, e]
    refine WS_cond (t := false) (by simp [h, e]) (fun h => by cases h) (fun _ => ?_)
    refine WS_skip ?_
    simp [h, e]
    refine WS_seq ?_
    refine WS_reg [] ?_
    simp [h, e]
    refine callK mk ?_
    simp [h, e]
    refine WS_ret ?_
    simp [h, e]

theorem rsign {k : Nat} {v : V} {x : Int} (hv : IsZ k v x) (hk : k ≤ 2 ^ 40) : Spec Try.prog f_ref02_Sign [v] (· = [.pure (.i .i64 x.sign)]) := by
  have nn := rnorm hv hk
  obtain ⟨n, l, rfl, h, rfl⟩ := hv
  refine spec_at Try.func83 ok_ref02_Sign [] rfl (by simp) ?_
  unfold sc_ref02_Sign
  obtain ⟨x, hx⟩ : ∃ x, x = zi n l := ⟨_, rfl⟩
  rw [← hx] at nn ⊢
  by_cases h1 : x < 0
  · have e1 := zn_true h1
    rw [sign_lt h1]
    refine WS_seq ?_
    refine WS_reg [] ?_
    simp [e1]
    refine WS_seq ?_
    refine WS_reg [] ?_
    simp [e1]
    refine callK nn ?_
    simp [e1]
    refine WS_seq ?_
    refine WS_seq ?_
    refine WS_reg [] ?_
    simp [e1]
    refine WS_cond (t := true) (by simp [e1]) (fun _ => ?_) (fun h => by cases h)
    refine WS_seq ?_
    refine WS_reg [] ?_
    simp [e1]
    refine WS_ret ?_
    simp [e1]
  · have e1 := zn_false (x := x) (by omega)
    by_cases h2 : x = 0
    · subst h2
      refine WS_seq ?_
      refine WS_reg [] ?_
      simp [e1, zl_nil]
      refine WS_seq ?_
      refine WS_reg [] ?_
      simp [e1, zl_nil]
      refine callK nn ?_
      simp [e1, zl_nil]
      refine WS_seq ?_
      refine WS_seq ?_
      refine WS_reg [] ?_
      simp [e1, zl_nil]
      refine WS_cond (t := false) (by simp [e1, zl_nil]) (fun h => by cases h) (fun _ => ?_)
      refine WS_skip ?_
      simp [e1, zl_nil]
      refine WS_seq ?_
      refine WS_seq ?_
      refine WS_reg [] ?_
      simp [e1, zl_nil]
      refine WS_cond (t := false) (by simp [e1, zl_nil]) (fun h => by cases h) (fun _ => ?_)
      refine WS_skip ?_
      simp [e1, zl_nil]
      refine WS_seq ?_
      refine WS_reg [] ?_
      simp [e1, zl_nil]
      refine WS_ret ?_
      simp [e1, zl_nil]
    · have hp := zl_pos h2
      rw [sign_gt (by omega)]
      refine WS_seq ?_
      refine WS_reg [] ?_
      simp [e1, hp]
      refine WS_seq ?_
      refine WS_reg [] ?_
      simp [e1, hp]
      refine callK nn ?_
      simp [e1, hp]
      refine WS_seq ?_
      refine WS_seq ?_
      refine WS_reg [] ?_
      simp [e1, hp]
      refine WS_cond (t := false) (by simp [e1, hp]) (fun h => by cases h) (fun _ => ?_)
      refine WS_skip ?_
      simp [e1, hp]
      refine WS_seq ?_
      refine WS_seq ?_
      refine WS_reg [] ?_
      simp [e1, hp]
      refine WS_cond (t := true) (by simp [e1, hp]) (fun _ => ?_) (fun h => by cases h)
      refine WS_seq ?_
      refine WS_reg [] ?_
      simp [e1, hp]
      refine WS_ret ?_
      simp [e1, hp]

theorem radd {k : Nat} {v w : V} {x y : Int} (hv : IsZ k v x) (hw : IsZ k w y) (hk : k ≤ 2 ^ 37) : Spec Try.prog f_ref02_Add [v, w] (· = [.pure (Z (x + y))]) := by
  obtain ⟨n1, l1, rfl, h1, rfl⟩ := hv
  obtain ⟨n2, l2, rfl, h2, rfl⟩ := hw
  refine spec_at Try.func74 ok_ref02_Add [] rfl (by simp) ?_
  unfold sc_ref02_Add
  have c1 := h1.len
  have c2 := h2.len
  have v1 := Nat.lt_of_lt_of_le (Nm.val_lt h1.dl) (Nat.pow_le_pow_right (n := 18446744073709551616) (by omega) c1)
  have v2 := Nat.lt_of_lt_of_le (Nm.val_lt h2.dl) (Nat.pow_le_pow_right (n := 18446744073709551616) (by omega) c2)
  have ad := radd_spec l1 l2 h1.dl h2.dl (by omega) (by omega)
  have s12 := rsub_spec l1 l2 h1.dl h2.dl (by omega) (by omega)
  have s21 := rsub_spec l2 l1 h2.dl h1.dl (by omega) (by omega)
  obtain ⟨a, ha⟩ : ∃ a, a = Nm.val 18446744073709551616 l1 := ⟨_, rfl⟩
  obtain ⟨b, hb⟩ : ∃ a, a = Nm.val 18446744073709551616 l2 := ⟨_, rfl⟩
  rw [← ha] at v1 ad s12 s21
  rw [← hb] at v2 ad s12 s21
  have mk : ∀ (n : Bool) (m : Nat), m ≤ a + b → Spec Try.prog f_ref02_Norm [.agg [.b n, .sl none (uL (Nm.dig 18446744073709551616 m))]] (· = [.pure (Z (if n then -(m : Int) else (m : Int)))]) := by
    intro n m hm
    have := rnorm (isZ_zv (n := n) ((zw_dig (m := m) (k := k + 1) (by rw [Nat.pow_succ]; omega)).mono (show k + 1 ≤ 2 ^ 40 by omega))) (Nat.le_refl _)
    rwa [zi, Nm.val_dig (by omega)] at this
  have e1 : zi n1 l1 = if n1 then -(a : Int) else (a : Int) := by rw [ha]; rfl
  have e2 : zi n2 l2 = if n2 then -(b : Int) else (b : Int) := by rw [hb]; rfl
  rw [e1, e2]
  clear e1 e2 v1 v2 ha hb
  by_cases hs : n1 = n2
  · subst hs
    have m := mk n1 (a + b) (Nat.le_refl _)
    rw [show (if n1 = true then -((a + b : Nat) : Int) else ((a + b : Nat) : Int)) = (if n1 = true then -(a : Int) else (a : Int)) + (if n1 = true then -(b : Int) else (b : Int)) by cases n1 <;> simp <;> omega] at m
    obtain ⟨z, hz⟩ : ∃ z, z = (if n1 = true then -(a : Int) else (a : Int)) + (if n1 = true then -(b : Int) else (b : Int)) := ⟨_, rfl⟩
    rw [← hz] at m ⊢
    refine WS_seq ?_
    refine WS_reg [] ?_
    simp [U]
    refine WS_seq ?_
    refine WS_seq ?_
    refine WS_reg [] ?_
    simp [U]
    refine WS_cond (t := true) (by simp [U]) (fun _ => ?_) (fun h => by cases h)
    refine WS_seq ?_
    refine WS_regD [] ?_
    simp [U]
    refine callD ad rfl ?_
    simp [U]
    refine callD m rfl ?_
    simp [U]
    refine ⟨rfl, ?_⟩
    refine WS_ret ?_
    simp [U]
  · have hs' : (n1 == n2) = false := by simpa using hs
    have key : ∃ (n : Bool) (m : Nat), m ≤ a + b ∧ ((if n1 = true then -(a : Int) else (a : Int)) + (if n2 = true then -(b : Int) else (b : Int))) = (if n then -(m : Int) else (m : Int)) ∧ ((a < b ∧ n = n2 ∧ m = b - a) ∨ (¬ a < b ∧ n = n1 ∧ m = a - b)) := by
      by_cases h : a < b
      · exact ⟨n2, b - a, by omega, by cases n1 <;> cases n2 <;> simp at hs <;> simp <;> omega, .inl ⟨h, rfl, rfl⟩⟩
      · exact ⟨n1, a - b, by omega, by cases n1 <;> cases n2 <;> simp at hs <;> simp <;> omega, .inr ⟨h, rfl, rfl⟩⟩
    obtain ⟨n, m, hm, he, hc⟩ := key
    rw [he]
    have mm := mk n m hm
    obtain ⟨z, hz⟩ : ∃ z, z = (if n = true then -(m : Int) else (m : Int)) := ⟨_, rfl⟩
    rw [← hz] at mm ⊢
    obtain ⟨D, hD⟩ : ∃ D, D = Nm.dig 18446744073709551616 m := ⟨_, rfl⟩
    rw [← hD] at mm
    rcases hc with ⟨h, rfl, rfl⟩ | ⟨h, rfl, rfl⟩
    · rw [if_pos (by omega), ← hD] at s21
      rw [if_neg (by omega)] at s12
      refine WS_seq ?_
      refine WS_reg [] ?_
      simp [hs', U]
      refine WS_seq ?_
      refine WS_seq ?_
      refine WS_reg [] ?_
      simp [hs', U]
      refine WS_cond (t := false) (by simp [hs', U]) (fun h => by cases h) (fun _ => ?_)
      refine WS_skip ?_
      simp [hs', U]
      refine WS_seq ?_
      refine WS_reg [] ?_
      simp [hs', U]
      refine callK s12 ?_
      simp [hs', U]
      refine WS_seq ?_
      refine WS_seq ?_
      refine WS_reg [] ?_
      simp [hs', U]
      refine WS_cond (t := false) (by simp [hs', U]) (fun h => by cases h) (fun _ => ?_)
      refine WS_skip ?_
      simp [hs', U]
      refine WS_seq ?_
      refine WS_reg [] ?_
      simp [hs', U]
      refine callK s21 ?_
      simp [hs', U]
      refine WS_seq ?_
      refine WS_reg [] ?_
      simp [hs', U]
      refine callK mm ?_
      simp [hs', U]
      refine WS_ret ?_
      simp [hs', U]
    · rw [if_pos (by omega), ← hD] at s12
      refine WS_seq ?_
      refine WS_reg [] ?_
      simp [hs', U]
      refine WS_seq ?_
      refine WS_seq ?_
      refine WS_reg [] ?_
      simp [hs', U]
      refine WS_cond (t := false) (by simp [hs', U]) (fun h => by cases h) (fun _ => ?_)
      refine WS_skip ?_
      simp [hs', U]
      refine WS_seq ?_
      refine WS_reg [] ?_
      simp [hs', U]
      refine callK s12 ?_
      simp [hs', U]
      refine WS_seq ?_
      refine WS_seq ?_
      refine WS_reg [] ?_
      simp [hs', U]
      refine WS_cond (t := true) (by simp [hs', U]) (fun _ => ?_) (fun h => by cases h)
      refine WS_seq ?_
      refine WS_reg [] ?_
      simp [hs', U]
      refine callK mm ?_
      simp [hs', U]
      refine WS_ret ?_
      simp [hs', U]

theorem rsub {k : Nat} {v w : V} {x y : Int} (hv : IsZ k v x) (hw : IsZ k w y) (hk : k ≤ 2 ^ 37) : Spec Try.prog f_ref02_Sub [v, w] (· = [.pure (Z (x - y))]) := by
  have ng := rneg hw (by omega)
  have hl := hw.zlen
  have ad := radd hv (isZ_Z (z := -y) (k := k) (by rw [zlen_neg]; exact hl)) hk
  rw [← Int.sub_eq_add_neg] at ad
  obtain ⟨n, l, rfl, h, rfl⟩ := hv
  obtain ⟨n', l', rfl, h', rfl⟩ := hw
  refine spec_at Try.func76 ok_ref02_Sub [] rfl (by simp) ?_
  unfold sc_ref02_Sub
  simp only [zv] at ng ad
  refine WS_seq ?_
  refine WS_reg [] ?_
  simp
  refine WS_seq ?_
  refine WS_regD [] ?_
  simp
  refine callD ng rfl ?_
  simp
  refine callD ad rfl ?_
  simp
  refine ⟨rfl, ?_⟩
  refine WS_ret ?_
  simp

theorem rcmp {k : Nat} {v w : V} {x y : Int} (hv : IsZ k v x) (hw : IsZ k w y) (hk : k ≤ 2 ^ 37) : Spec Try.prog f_ref02_Cmp [v, w] (· = [.pure (.i .i64 (x - y).sign)]) := by
  have sb := rsub hv hw hk
  have hl := zlen_sub x y
  have h1 := hv.zlen
  have h2 := hw.zlen
  have sg := rsign (isZ_Z (z := x - y) (k := k + 1) (by omega)) (by omega)
  obtain ⟨n, l, rfl, h, rfl⟩ := hv
  obtain ⟨n', l', rfl, h', rfl⟩ := hw
  simp only [zv] at sb sg
  refine spec_at Try.func81 ok_ref02_Cmp [] rfl (by simp) ?_
  unfold sc_ref02_Cmp
  refine WS_seq ?_
  refine WS_reg [] ?_
  simp
  refine WS_seq ?_
  refine WS_reg [] ?_
  simp
  refine callK sb ?_
  simp
  refine callK sg ?_
  simp
  refine WS_ret ?_
  simp

theorem rmul {k : Nat} {v w : V} {x y : Int} (hv : IsZ k v x) (hw : IsZ k w y) (hk : k ≤ 2 ^ 28) : Spec Try.prog f_ref02_Mul [v, w] (· = [.pure (Z (x * y))]) := by
  obtain ⟨n, l, rfl, h, rfl⟩ := hv
  obtain ⟨n', l', rfl, h', rfl⟩ := hw
  have c1 := h.len
  have c2 := h'.len
  have mu := rmul_spec l l' h.dl h'.dl (by omega) (by omega)
  have hlt : Nm.val 18446744073709551616 l * Nm.val 18446744073709551616 l' < 18446744073709551616 ^ (l.length + l'.length) := by rw [Nat.pow_add]; exact Nat.mul_lt_mul'' (Nm.val_lt h.dl) (Nm.val_lt h'.dl)
  have mk := rnorm (isZ_zv (n := n != n') ((zw_dig hlt).mono (show l.length + l'.length ≤ 2 ^ 40 by omega))) (Nat.le_refl _)
  have he : zi (n != n') (Nm.dig 18446744073709551616 (Nm.val 18446744073709551616 l * Nm.val 18446744073709551616 l')) = zi n l * zi n' l' := by
    simp only [zi, Nm.val_dig (show 2 ≤ 18446744073709551616 by omega)]
    cases n <;> cases n' <;> simp [Int.neg_mul, Int.mul_neg]
  rw [he] at mk
  simp only [zv] at mk
  refine spec_at Try.func77 ok_ref02_Mul [] rfl (by simp) ?_
  unfold sc_ref02_Mul
  refine WS_seq ?_
  refine WS_reg [] ?_
  simp [U]
  refine WS_seq ?_
  refine WS_regD [] ?_
  simp [U]
  refine callD mu rfl ?_
  simp [U]
  refine callD mk rfl ?_
  simp [U]
  refine ⟨rfl, ?_⟩
  refine WS_ret ?_
  simp [U]

/-- Two plain integers are the same. -/
theorem zsame (x : Int) (hl : zlen x ≤ 2 ^ 40) : Spec Try.prog f_ref02_Same [Z x, Z x] (· = [.pure (.b true)]) := by
  have sm := rsame_spec (zl x) hl
  refine spec_at Try.func116 ok_ref02_Same [] rfl (by simp) ?_
  unfold sc_ref02_Same
  refine WS_seq ?_
  refine WS_reg [] ?_
  simp [U]
  refine WS_seq ?_
  refine WS_reg [] ?_
  simp [U]
  refine callK sm ?_
  simp [U]
  refine WS_ret ?_
  simp [U]

theorem same2 (x : Int) (hl : zlen x ≤ 2 ^ 40) : Spec Try.prog f_law02_same [Z x, Z x] (· = [.pure (.b true)]) := by
  have sm := zsame x hl
  refine spec_at Try.func62 ok_law02_same [] rfl (by simp) ?_
  unfold sc_law02_same
  refine WS_seq ?_
  refine WS_reg [] ?_
  simp
  refine WS_seq ?_
  refine WS_reg [] ?_
  simp
  refine callK sm ?_
  simp
  refine WS_ret ?_
  simp
end Go.Vw
