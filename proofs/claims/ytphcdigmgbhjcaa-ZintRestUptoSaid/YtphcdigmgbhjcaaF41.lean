/- Integers by what they are; zint's Sub, Mul, Of, Sign, Cmp, Small. -/
import Derived.Test.YtphcdigmgbhjcaaF40
set_option linter.unusedVariables false
set_option linter.unusedSimpArgs false
namespace Go.Vw
open Go.Proofs

/-- The value v is the integer z, in at most k limbs. -/
def IsZ (k : Nat) (v : V) (z : Int) : Prop := ∃ n l, v = zv n l ∧ ZW k l ∧ zi n l = z
def zlen (z : Int) : Nat := (zl z).length

theorem IsZ.mono {k m : Nat} {v : V} {z : Int} (h : IsZ k v z) (hk : k ≤ m) : IsZ m v z := by
  obtain ⟨n, l, h1, h2, h3⟩ := h
  exact ⟨n, l, h1, h2.mono hk, h3⟩
theorem isZ_zv {k : Nat} {n : Bool} {l : List Nat} (h : ZW k l) : IsZ k (zv n l) (zi n l) := ⟨n, l, rfl, h, rfl⟩
theorem isZ_Z {k : Nat} {z : Int} (h : zlen z ≤ k) : IsZ k (Z z) z := ⟨zn z, zl z, rfl, ⟨zl_dl z, h⟩, zi_Z z⟩

theorem Z_fold (z : Int) : V.agg [.b (zn z), .sl none (uL (zl z))] = Z z := rfl
theorem Z_cells (z : Int) : (Z z).cells = [.b (zn z), .sl none (uL (zl z))] := rfl
theorem Z_isAgg (z : Int) : (Z z).isAgg = true := rfl
theorem Z_zero : V.agg [.b false, .sl none []] = Z 0 := rfl

theorem zlen_lt {z : Int} {k : Nat} (h : z.natAbs < 18446744073709551616 ^ k) : zlen z ≤ k := Nm.dig_length_le (by omega) h
theorem lt_zlen (z : Int) : z.natAbs < 18446744073709551616 ^ zlen z := by
  have := Nm.val_lt (zl_dl z)
  rwa [zl_val] at this
theorem lt_zlen' {z : Int} {k : Nat} (h : zlen z ≤ k) : z.natAbs < 18446744073709551616 ^ k := Nat.lt_of_lt_of_le (lt_zlen z) (Nat.pow_le_pow_right (by omega) h)
theorem zlen_le {x y : Int} (h : x.natAbs ≤ y.natAbs) : zlen x ≤ zlen y := zlen_lt (Nat.lt_of_le_of_lt h (lt_zlen y))
theorem IsZ.zlen {k : Nat} {v : V} {z : Int} (h : IsZ k v z) : zlen z ≤ k := by
  obtain ⟨n, l, rfl, h2, rfl⟩ := h
  have := Nm.trim_length_le l
  unfold Vw.zlen
  rw [zl_zi n h2.dl]
  have := h2.len
  omega
theorem zlen_neg (x : Int) : zlen (-x) = zlen x := by simp [zlen, zl]
theorem zlen_add (x y : Int) : zlen (x + y) ≤ max (zlen x) (zlen y) + 1 := by
  refine zlen_lt ?_
  have h1 := lt_zlen' (Nat.le_max_left (zlen x) (zlen y))
  have h2 := lt_zlen' (Nat.le_max_right (zlen x) (zlen y))
  rw [Nat.pow_succ]
  omega
theorem zlen_sub (x y : Int) : zlen (x - y) ≤ max (zlen x) (zlen y) + 1 := by
  have := zlen_add x (-y)
  rwa [zlen_neg] at this
theorem zlen_mul (x y : Int) : zlen (x * y) ≤ zlen x + zlen y := by
  refine zlen_lt ?_
  rw [Int.natAbs_mul, Nat.pow_add]
  exact Nat.mul_lt_mul'' (lt_zlen x) (lt_zlen y)
theorem zlen_zero : zlen 0 = 0 := rfl
theorem zlen_one : zlen 1 ≤ 1 := zlen_lt (by decide)
theorem zlen_small {x : Int} (h : x.natAbs < 18446744073709551616) : zlen x ≤ 1 := zlen_lt (by simpa using h)

attribute [local simp] RunL_cons RunL_nil AOp_none AOp_some acK_v acK_call agK_tt agK_ff agK_tf agK_ft agK_tup agK_i aop aun St.ev St.heap St.put thenQ blockQ upd_apply S0 argSlot lowV V.cells V.isAgg V.fits V.part partOk plains St.ret retSV svOf svsOf retQ retP retAll retOne uL_length uL_get? uL_get St.elems retH ownIdx ownAt
attribute [local simp] RunD_none RunD_some RunD_nil RunE_any acD_v acD_call agD_tt agD_ff agD_tf agD_ft agD_tup entsOf svref SO.opds SO.writes SO.makes callEnt pureSV pureOf RV.isOwn
attribute [local simp] abin_add abin_sub abin_mul abin_quo abin_rem abin_eql abin_neq abin_lss abin_leq abin_gtr abin_geq
attribute [local simp] uL_snoc uL_set uL_take uL_drop uL_append uL_replicate uL_nil
attribute [local simp] acK_callG acD_callG St.giv gsSV gvSV retEnts ownEnts SO.still
attribute [local simp] S0G argSlotG givSV retQG retPG retAllG retOneG HObj.width V.scalar trimQ V.byte
attribute [local simp] zv V.fits fillOk fillV Z_eq
theorem znorm {k : Nat} {v : V} {x : Int} (hv : IsZ k v x) (hk : k ≤ 2 ^ 40) : Spec Try.prog f_zint_Norm [v] (· = [.pure (Z x)]) := by
  obtain ⟨n, l, rfl, h, rfl⟩ := hv
  exact znorm_spec n l (h.mono hk)
theorem zneg {k : Nat} {v : V} {x : Int} (hv : IsZ k v x) (hk : k ≤ 2 ^ 40) : Spec Try.prog f_zint_Neg [v] (· = [.pure (Z (-x))]) := by
  obtain ⟨n, l, rfl, h, rfl⟩ := hv
  exact zneg_spec n l (h.mono hk)
theorem zadd {k : Nat} {v w : V} {x y : Int} (hv : IsZ k v x) (hw : IsZ k w y) (hk : k ≤ 2 ^ 37) : Spec Try.prog f_zint_Add [v, w] (· = [.pure (Z (x + y))]) := by
  obtain ⟨n, l, rfl, h, rfl⟩ := hv
  obtain ⟨n', l', rfl, h', rfl⟩ := hw
  exact zadd_spec n n' l l' (h.mono hk) (h'.mono hk)

theorem zsub {k : Nat} {v w : V} {x y : Int} (hv : IsZ k v x) (hw : IsZ k w y) (hk : k ≤ 2 ^ 37) : Spec Try.prog f_zint_Sub [v, w] (· = [.pure (Z (x - y))]) := by
  have ng := zneg hw (by omega)
  have hl := hw.zlen
  have ad := zadd hv (isZ_Z (z := -y) (k := k) (by rw [zlen_neg]; exact hl)) hk
  rw [← Int.sub_eq_add_neg] at ad
  obtain ⟨n, l, rfl, h, rfl⟩ := hv
  obtain ⟨n', l', rfl, h', rfl⟩ := hw
  refine spec_at Try.func75 ok_zint_Sub [] rfl (by simp) ?_
  unfold sc_zint_Sub
  simp only [zv] at ng ad
  refine WS_seq ?_
  refine WS_reg [] ?_
  simp
  refine WS_seq ?_
  refine WS_regD [] ?_
  simp
  refine callD ng rfl ?_
  simp
  refine callD ad rfl ?_
  simp
  refine ⟨rfl, ?_⟩
  refine WS_ret ?_
  simp

theorem zmul {k : Nat} {v w : V} {x y : Int} (hv : IsZ k v x) (hw : IsZ k w y) (hk : k ≤ 2 ^ 28) : Spec Try.prog f_zint_Mul [v, w] (· = [.pure (Z (x * y))]) := by
  obtain ⟨n, l, rfl, h, rfl⟩ := hv
  obtain ⟨n', l', rfl, h', rfl⟩ := hw
  have c1 := h.len
  have c2 := h'.len
  have mu := mul_spec l l' h.dl h'.dl (by omega) (by omega)
  have hlt : Nm.val 18446744073709551616 l * Nm.val 18446744073709551616 l' < 18446744073709551616 ^ (l.length + l'.length) := by rw [Nat.pow_add]; exact Nat.mul_lt_mul'' (Nm.val_lt h.dl) (Nm.val_lt h'.dl)
  have mk := made_spec (n != n') (Nm.dig 18446744073709551616 (Nm.val 18446744073709551616 l * Nm.val 18446744073709551616 l')) ((zw_dig hlt).mono (by omega))
  have he : zi (n != n') (Nm.dig 18446744073709551616 (Nm.val 18446744073709551616 l * Nm.val 18446744073709551616 l')) = zi n l * zi n' l' := by
    simp only [zi, Nm.val_dig (show 2 ≤ 18446744073709551616 by omega)]
    cases n <;> cases n' <;> simp [Int.neg_mul, Int.mul_neg]
  rw [he] at mk
  refine spec_at Try.func71 ok_zint_Mul [] rfl (by simp) ?_
  unfold sc_zint_Mul
  refine WS_seq ?_
  refine WS_reg [] ?_
  simp [U]
  refine WS_seq ?_
  refine WS_regD [] ?_
  simp [U]
  refine callD mu rfl ?_
  simp [U]
  refine callD mk rfl ?_
  simp [U]
  refine ⟨rfl, ?_⟩
  refine WS_ret ?_
  simp [U]

theorem u64_neg_i64 {n : Int} (h : n < 0) (h2 : -9223372036854775808 ≤ n) : IntKind.u64.wrap (-IntKind.u64.wrap n) = (n.natAbs : Int) := by
  rw [IntKind.wrap_u64, IntKind.wrap_u64]; omega
theorem u64_i64 {n : Int} (h : 0 ≤ n) (h2 : n ≤ 9223372036854775807) : IntKind.u64.wrap n = (n.natAbs : Int) := by
  rw [IntKind.wrap_u64]; omega

theorem zof (n : Int) (h1 : -9223372036854775808 ≤ n) (h2 : n ≤ 9223372036854775807) : Spec Try.prog f_zint_Of [.i .i64 n] (· = [.pure (Z n)]) := by
  refine spec_at Try.func68 ok_zint_Of [] rfl (by simp) ?_
  unfold sc_zint_Of
  have hd : ZW (2 ^ 40) [n.natAbs] := ⟨Nm.Dl.cons (by omega) (Nm.Dl.nil _), by simp⟩
  by_cases h : n < 0
  · have mk := made_spec true [n.natAbs] hd
    rw [show zi true [n.natAbs] = n by simp [zi, Nm.val]; omega, show uL [n.natAbs] = [V.i .u64 (n.natAbs : Int)] from rfl] at mk
    have e := u64_neg_i64 h h1
    refine WS_seq ?_
    refine WS_reg [] ?_
    simp [h, e]
    refine WS_seq ?_
    refine WS_seq ?_
    refine WS_reg [] ?_
    simp [h, e]
    refine WS_cond (t := true) (by simp [h, e]) (fun _ => ?_) (fun h => by cases h)
    refine WS_seq ?_
    refine WS_reg [] ?_
    simp [h, e]
    refine callK mk ?_
    simp [h, e]
    refine WS_ret ?_
    simp [h, e]
  · have mk := made_spec false [n.natAbs] hd
    rw [show zi false [n.natAbs] = n by simp [zi, Nm.val]; omega, show uL [n.natAbs] = [V.i .u64 (n.natAbs : Int)] from rfl] at mk
    have e := u64_i64 (by omega) h2
    refine WS_seq ?_
    refine WS_reg [] ?_
    simp [h, e]
    refine WS_seq ?_
    refine WS_seq ?_
    refine WS_reg [] ?_
    simp [h, e]
    refine WS_cond (t := false) (by simp [h, e]) (fun h => by cases h) (fun _ => ?_)
    refine WS_skip ?_
    simp [h, e]
    refine WS_seq ?_
    refine WS_reg [] ?_
    simp [h, e]
    refine callK mk ?_
    simp [h, e]
    refine WS_ret ?_
    simp [h, e]

theorem sign_lt {x : Int} (h : x < 0) : x.sign = -1 := Int.sign_eq_neg_one_of_neg h
theorem sign_gt {x : Int} (h : 0 < x) : x.sign = 1 := Int.sign_eq_one_of_pos h

theorem zn_false {x : Int} (h : 0 ≤ x) : zn x = false := decide_eq_false (by omega)
theorem zn_true {x : Int} (h : x < 0) : zn x = true := decide_eq_true h

theorem zsign {k : Nat} {v : V} {x : Int} (hv : IsZ k v x) (hk : k ≤ 2 ^ 40) : Spec Try.prog f_zint_Sign [v] (· = [.pure (.i .i64 x.sign)]) := by
  have nn := znorm hv hk
  obtain ⟨n, l, rfl, h, rfl⟩ := hv
  refine spec_at Try.func82 ok_zint_Sign [] rfl (by simp) ?_
  unfold sc_zint_Sign
  obtain ⟨x, hx⟩ : ∃ x, x = zi n l := ⟨_, rfl⟩
  rw [← hx] at nn ⊢
  by_cases h1 : x < 0
  · have e1 := zn_true h1
    rw [sign_lt h1]
    refine WS_seq ?_
    refine WS_reg [] ?_
    simp [e1, i64_int]
    refine WS_seq ?_
    refine WS_reg [] ?_
    simp [e1, i64_int]
    refine callK nn ?_
    simp [e1, i64_int]
    refine WS_seq ?_
    refine WS_reg [] ?_
    simp [e1, i64_int]
    refine WS_seq ?_
    refine WS_block ?_
    refine WS_seq ?_
    refine WS_block ?_
    refine WS_seq ?_
    refine WS_block ?_
    refine WS_seq ?_
    refine WS_seq ?_
    refine WS_seq ?_
    refine WS_reg [] ?_
    simp [e1, i64_int]
    refine WS_cond (t := true) (by simp [e1, i64_int]) (fun _ => ?_) (fun h => by cases h)
    refine WS_exit ?_
    simp [e1, i64_int]
    refine WS_reg [] ?_
    simp [e1, i64_int]
    refine WS_seq ?_
    refine WS_reg [] ?_
    simp [e1, i64_int]
    refine WS_exit ?_
    simp [e1, i64_int]
    refine WS_seq ?_
    refine WS_reg [] ?_
    simp [e1, i64_int]
    refine WS_ret ?_
    simp [e1, i64_int]
  · have e1 := zn_false (x := x) (by omega)
    by_cases h2 : x = 0
    · subst h2
      refine WS_seq ?_
      refine WS_reg [] ?_
      simp [e1, zl_nil]
      refine WS_seq ?_
      refine WS_reg [] ?_
      simp [e1, zl_nil]
      refine callK nn ?_
      simp [e1, zl_nil]
      refine WS_seq ?_
      refine WS_reg [] ?_
      simp [e1, zl_nil]
      refine WS_seq ?_
      refine WS_block ?_
      refine WS_seq ?_
      refine WS_block ?_
      refine WS_seq ?_
      refine WS_block ?_
      refine WS_seq ?_
      refine WS_seq ?_
      refine WS_seq ?_
      refine WS_reg [] ?_
      simp [e1, zl_nil]
      refine WS_cond (t := false) (by simp [e1, zl_nil]) (fun h => by cases h) (fun _ => ?_)
      refine WS_skip ?_
      simp [e1, zl_nil]
      refine WS_seq ?_
      refine WS_reg [] ?_
      simp [e1, zl_nil]
      refine WS_cond (t := false) (by simp [e1, zl_nil]) (fun h => by cases h) (fun _ => ?_)
      refine WS_skip ?_
      simp [e1, zl_nil]
      refine WS_exit ?_
      simp [e1, zl_nil]
      refine WS_seq ?_
      refine WS_reg [] ?_
      simp [e1, zl_nil]
      refine WS_ret ?_
      simp [e1, zl_nil]
    · have hp := zl_pos h2
      have hp' : (0 : Int) < ((zl x).length : Int) := by omega
      rw [sign_gt (by omega)]
      refine WS_seq ?_
      refine WS_reg [] ?_
      simp [e1, hp, i64_int]
      refine WS_seq ?_
      refine WS_reg [] ?_
      simp [e1, hp, i64_int]
      refine callK nn ?_
      simp [e1, hp, i64_int]
      refine WS_seq ?_
      refine WS_reg [] ?_
      simp [e1, hp, i64_int]
      refine WS_seq ?_
      refine WS_block ?_
      refine WS_seq ?_
      refine WS_block ?_
      refine WS_seq ?_
      refine WS_block ?_
      refine WS_seq ?_
      refine WS_seq ?_
      refine WS_seq ?_
      refine WS_reg [] ?_
      simp [e1, hp, i64_int]
      refine WS_cond (t := false) (by simp [e1, hp, i64_int]) (fun h => by cases h) (fun _ => ?_)
      refine WS_skip ?_
      simp [e1, hp, i64_int]
      refine WS_seq ?_
      refine WS_reg [] ?_
      simp [e1, hp, i64_int]
      refine WS_cond (t := true) (by simp [e1, hp, i64_int]) (fun _ => ?_) (fun h => by cases h)
      refine WS_exit ?_
      simp [e1, hp, i64_int]
      refine WS_seq ?_
      refine WS_reg [] ?_
      simp [e1, hp, i64_int]
      refine WS_exit ?_
      simp [e1, hp, i64_int]
      refine WS_seq ?_
      refine WS_reg [] ?_
      simp [e1, hp, i64_int]
      refine WS_ret ?_
      simp [e1, hp, i64_int]

theorem zcmp {k : Nat} {v w : V} {x y : Int} (hv : IsZ k v x) (hw : IsZ k w y) (hk : k ≤ 2 ^ 37) : Spec Try.prog f_zint_Cmp [v, w] (· = [.pure (.i .i64 (x - y).sign)]) := by
  have sb := zsub hv hw hk
  have hl := zlen_sub x y
  have h1 := hv.zlen
  have h2 := hw.zlen
  have sg := zsign (isZ_Z (z := x - y) (k := k + 1) (by omega)) (by omega)
  obtain ⟨n, l, rfl, h, rfl⟩ := hv
  obtain ⟨n', l', rfl, h', rfl⟩ := hw
  simp only [zv] at sb sg
  refine spec_at Try.func80 ok_zint_Cmp [] rfl (by simp) ?_
  unfold sc_zint_Cmp
  refine WS_seq ?_
  refine WS_reg [] ?_
  simp
  refine WS_seq ?_
  refine WS_reg [] ?_
  simp
  refine callK sb ?_
  simp
  refine callK sg ?_
  simp
  refine WS_ret ?_
  simp
end Go.Vw
