/- Integers: zint's Norm, Neg, Of, Sign. -/
import Derived.Test.YtphcdigmgbhjcaaF34
set_option linter.unusedVariables false
set_option linter.unusedSimpArgs false
namespace Go.Vw
open Go.Proofs

/-- An integer as the program has it: its sign, its limbs. -/
def zv (n : Bool) (l : List Nat) : V := .agg [.b n, .sl none (uL l)]
/-- Which integer that is. -/
def zi (n : Bool) (l : List Nat) : Int := if n then -(Nm.val 18446744073709551616 l : Int) else (Nm.val 18446744073709551616 l : Int)
def zn (z : Int) : Bool := decide (z < 0)
def zl (z : Int) : List Nat := Nm.dig 18446744073709551616 z.natAbs
/-- An integer, plain. -/
def Z (z : Int) : V := zv (zn z) (zl z)

/-- Limbs, and not too many. -/
structure ZW (k : Nat) (l : List Nat) : Prop where
  dl : Nm.Dl 18446744073709551616 l
  len : l.length ≤ k

theorem ZW.mono {k m : Nat} {l : List Nat} (h : ZW k l) (hk : k ≤ m) : ZW m l := ⟨h.dl, Nat.le_trans h.len hk⟩

theorem zi_abs (n : Bool) (l : List Nat) : (zi n l).natAbs = Nm.val 18446744073709551616 l := by cases n <;> simp [zi]
theorem zi_Z (z : Int) : zi (zn z) (zl z) = z := by
  unfold zi zn zl
  rw [Nm.val_dig (by omega)]
  by_cases h : z < 0
  · rw [decide_eq_true h, if_pos rfl]; omega
  · rw [decide_eq_false h, if_neg (by simp)]; omega
theorem zl_dl (z : Int) : Nm.Dl 18446744073709551616 (zl z) := Nm.dig_lt (by omega) _
theorem zl_val (z : Int) : Nm.val 18446744073709551616 (zl z) = z.natAbs := Nm.val_dig (by omega) _
theorem zl_trim (z : Int) : Nm.trim (zl z) = zl z := Nm.trim_dig (by omega) _
theorem zl_zi (n : Bool) {l : List Nat} (hl : Nm.Dl 18446744073709551616 l) : zl (zi n l) = Nm.trim l := by rw [zl, zi_abs, Nm.dig_val (by omega) hl]
theorem zn_zi (n : Bool) {l : List Nat} (hl : Nm.Dl 18446744073709551616 l) : zn (zi n l) = (n && decide (0 < (Nm.trim l).length)) := by
  rw [← Nm.dig_val (by omega) hl]
  have h1 := @Nm.dig_length_pos 18446744073709551616 (by omega) (Nm.val 18446744073709551616 l)
  by_cases h0 : Nm.val 18446744073709551616 l = 0
  · rw [h0]
    cases n <;> simp [zn, zi, h0, Nm.dig_zero]
  · have := h1 h0
    cases n <;> simp [zn, zi, this] <;> omega
theorem zl_nil : zl 0 = [] := rfl
theorem zl_eq_nil {z : Int} : zl z = [] ↔ z = 0 := by
  rw [zl, Nm.dig_nil (by omega)]; omega
theorem zl_pos {z : Int} (h : z ≠ 0) : 0 < (zl z).length := Nm.dig_length_pos (by omega) (by omega)
theorem Z_eq (z : Int) : Z z = .agg [.b (zn z), .sl none (uL (zl z))] := rfl

attribute [local simp] RunL_cons RunL_nil AOp_none AOp_some acK_v acK_call agK_tt agK_ff agK_tf agK_ft agK_tup agK_i aop aun St.ev St.heap St.put thenQ blockQ upd_apply S0 argSlot lowV V.cells V.isAgg V.fits V.part partOk plains St.ret retSV svOf svsOf retQ retP retAll retOne uL_length uL_get? uL_get St.elems retH ownIdx ownAt
attribute [local simp] RunD_none RunD_some RunD_nil RunE_any acD_v acD_call agD_tt agD_ff agD_tf agD_ft agD_tup entsOf svref SO.opds SO.writes SO.makes callEnt pureSV pureOf RV.isOwn
attribute [local simp] abin_add abin_sub abin_mul abin_quo abin_rem abin_eql abin_neq abin_lss abin_leq abin_gtr abin_geq
attribute [local simp] uL_snoc uL_set uL_take uL_drop uL_append uL_replicate uL_nil
attribute [local simp] acK_callG acD_callG St.giv gsSV gvSV retEnts ownEnts SO.still
attribute [local simp] S0G argSlotG givSV retQG retPG retAllG retOneG HObj.width V.scalar trimQ V.byte
theorem made_spec (n : Bool) (l : List Nat) (hl : ZW (2 ^ 40) l) : Spec Try.prog f_zint_made [.b n, .sl none (uL l)] (· = [.pure (Z (zi n l))]) := by
  refine spec_at Try.func153 ok_zint_made [] rfl (by simp) ?_
  unfold sc_zint_made
  have nn := nnorm_spec l hl.len
  have e1 := zl_zi n hl.dl
  have e2 := zn_zi n hl.dl
  rw [Z_eq, e1, e2]
  obtain ⟨t, ht⟩ : ∃ t, t = Nm.trim l := ⟨_, rfl⟩
  rw [← ht] at nn ⊢
  refine WS_seq (WS_reg [] ?_)
  simp
  refine WS_seq (WS_reg [] ?_)
  simp
  refine callK nn ?_
  simp [U]
  refine WS_seq (WS_reg [] ?_)
  cases n <;> simp [fillOk, fillV, V.fits]
  · refine WS_ret ?_
    simp
  · refine WS_ret ?_
    simp

theorem znorm_spec (n : Bool) (l : List Nat) (hl : ZW (2 ^ 40) l) : Spec Try.prog f_zint_Norm [zv n l] (· = [.pure (Z (zi n l))]) := by
  refine spec_at Try.func69 ok_zint_Norm [] rfl (by simp) ?_
  unfold sc_zint_Norm
  have m := made_spec n l hl
  rw [Z_eq] at m ⊢
  obtain ⟨zn', hzn⟩ : ∃ t, t = zn (zi n l) := ⟨_, rfl⟩
  obtain ⟨zl', hzl⟩ : ∃ t, t = zl (zi n l) := ⟨_, rfl⟩
  rw [← hzn, ← hzl] at m ⊢
  refine WS_seq (WS_reg [] ?_)
  simp [zv]
  refine WS_seq (WS_reg [] ?_)
  simp
  refine callK m ?_
  simp [V.fits]
  refine WS_ret ?_
  simp

theorem zneg_spec (n : Bool) (l : List Nat) (hl : ZW (2 ^ 40) l) : Spec Try.prog f_zint_Neg [zv n l] (· = [.pure (Z (-zi n l))]) := by
  refine spec_at Try.func72 ok_zint_Neg [] rfl (by simp) ?_
  unfold sc_zint_Neg
  have m := made_spec (!n) l hl
  rw [show zi (!n) l = -zi n l by cases n <;> simp [zi]] at m
  rw [Z_eq] at m ⊢
  obtain ⟨zn', hzn⟩ : ∃ t, t = zn (-zi n l) := ⟨_, rfl⟩
  obtain ⟨zl', hzl⟩ : ∃ t, t = zl (-zi n l) := ⟨_, rfl⟩
  rw [← hzn, ← hzl] at m ⊢
  refine WS_seq (WS_reg [] ?_)
  simp [zv]
  refine WS_seq (WS_reg [] ?_)
  simp
  refine callK m ?_
  simp [V.fits]
  refine WS_ret ?_
  simp

theorem zw_dig {m : Nat} {k : Nat} (h : m < 18446744073709551616 ^ k) : ZW k (Nm.dig 18446744073709551616 m) := ⟨Nm.dig_lt (by omega) _, Nm.dig_length_le (by omega) h⟩

theorem zadd_spec (n1 n2 : Bool) (l1 l2 : List Nat) (h1 : ZW (2 ^ 37) l1) (h2 : ZW (2 ^ 37) l2) : Spec Try.prog f_zint_Add [zv n1 l1, zv n2 l2] (· = [.pure (Z (zi n1 l1 + zi n2 l2))]) := by
  refine spec_at Try.func70 ok_zint_Add [] rfl (by simp) ?_
  unfold sc_zint_Add
  have c1 := h1.len
  have c2 := h2.len
  obtain ⟨K, hK⟩ : ∃ K : Nat, K = 2 ^ 37 := ⟨_, rfl⟩
  have v1 := Nat.lt_of_lt_of_le (Nm.val_lt h1.dl) (Nat.pow_le_pow_right (n := 18446744073709551616) (by omega) (show l1.length ≤ K by omega))
  have v2 := Nat.lt_of_lt_of_le (Nm.val_lt h2.dl) (Nat.pow_le_pow_right (n := 18446744073709551616) (by omega) (show l2.length ≤ K by omega))
  have ad := add_spec l1 l2 h1.dl h2.dl (by omega) (by omega)
  have cm := ncmp_spec l1 l2 h1.dl h2.dl (by omega) (by omega)
  have s12 := sub_spec l1 l2 h1.dl h2.dl (by omega) (by omega)
  have s21 := sub_spec l2 l1 h2.dl h1.dl (by omega) (by omega)
  obtain ⟨a, ha⟩ : ∃ a, a = Nm.val 18446744073709551616 l1 := ⟨_, rfl⟩
  obtain ⟨b, hb⟩ : ∃ a, a = Nm.val 18446744073709551616 l2 := ⟨_, rfl⟩
  rw [← ha] at v1 ad cm s12 s21
  rw [← hb] at v2 ad cm s12 s21
  have mk : ∀ (n : Bool) (m : Nat), m ≤ a + b → Spec Try.prog f_zint_made [.b n, .sl none (uL (Nm.dig 18446744073709551616 m))] (· = [.pure (Z (if n then -(m : Int) else (m : Int)))]) := by
    intro n m hm
    have := made_spec n (Nm.dig 18446744073709551616 m) ((zw_dig (k := K + 1) (by rw [Nat.pow_succ]; omega)).mono (by omega))
    rwa [zi, Nm.val_dig (by omega)] at this
  have e1 : zi n1 l1 = if n1 then -(a : Int) else (a : Int) := by rw [ha]; rfl
  have e2 : zi n2 l2 = if n2 then -(b : Int) else (b : Int) := by rw [hb]; rfl
  rw [e1, e2]
  clear e1 e2 v1 v2 ha hb
  refine WS_seq (WS_reg [] ?_)
  simp [zv]
  by_cases hs : n1 = n2
  · subst hs
    have m := mk n1 (a + b) (Nat.le_refl _)
    rw [show (if n1 = true then -((a + b : Nat) : Int) else ((a + b : Nat) : Int)) = (if n1 = true then -(a : Int) else (a : Int)) + (if n1 = true then -(b : Int) else (b : Int)) by cases n1 <;> simp <;> omega] at m
    rw [Z_eq] at m ⊢
    obtain ⟨zn', hzn⟩ : ∃ t, t = zn ((if n1 = true then -(a : Int) else (a : Int)) + (if n1 = true then -(b : Int) else (b : Int))) := ⟨_, rfl⟩
    obtain ⟨zl', hzl⟩ : ∃ t, t = zl ((if n1 = true then -(a : Int) else (a : Int)) + (if n1 = true then -(b : Int) else (b : Int))) := ⟨_, rfl⟩
    rw [← hzn, ← hzl] at m ⊢
    refine WS_seq (WS_seq (WS_reg [] ?_))
    simp
    refine WS_cond (t := true) (by simp) (fun _ => ?_) (fun h => by cases h)
    refine WS_seq (WS_regD [] ?_)
    simp
    refine callD ad rfl ?_
    simp [U]
    refine callD m rfl ?_
    simp [V.fits]
    refine ⟨rfl, ?_⟩
    refine WS_ret ?_
    simp
  · have hs' : (n1 == n2) = false := by simpa using hs
    have key : ∃ (n : Bool) (m : Nat), m ≤ a + b ∧ ((if n1 = true then -(a : Int) else (a : Int)) + (if n2 = true then -(b : Int) else (b : Int))) = (if n then -(m : Int) else (m : Int)) ∧ ((a < b ∧ n = n2 ∧ m = b - a) ∨ (¬ a < b ∧ n = n1 ∧ m = a - b)) := by
      by_cases h : a < b
      · exact ⟨n2, b - a, by omega, by cases n1 <;> cases n2 <;> simp at hs <;> simp <;> omega, .inl ⟨h, rfl, rfl⟩⟩
      · exact ⟨n1, a - b, by omega, by cases n1 <;> cases n2 <;> simp at hs <;> simp <;> omega, .inr ⟨h, rfl, rfl⟩⟩
    obtain ⟨n, m, hm, he, hc⟩ := key
    rw [he]
    have mm := mk n m hm
    rw [Z_eq] at mm ⊢
    obtain ⟨zn', hzn⟩ : ∃ t, t = zn (if n = true then -(m : Int) else (m : Int)) := ⟨_, rfl⟩
    obtain ⟨zl', hzl⟩ : ∃ t, t = zl (if n = true then -(m : Int) else (m : Int)) := ⟨_, rfl⟩
    rw [← hzn, ← hzl] at mm ⊢
    obtain ⟨D, hD⟩ : ∃ D, D = Nm.dig 18446744073709551616 m := ⟨_, rfl⟩
    rw [← hD] at mm
    refine WS_seq (WS_seq (WS_reg [] ?_))
    simp [hs']
    refine WS_cond (t := false) (by simp) (fun h => by cases h) (fun _ => ?_)
    refine WS_skip ?_
    simp
    refine WS_seq (WS_seq (WS_reg [] ?_))
    simp
    refine callK cm ?_
    rcases hc with ⟨h, rfl, rfl⟩ | ⟨h, rfl, rfl⟩
    · rw [if_pos (by omega), ← hD] at s21
      rw [show Nm.cmpN a b = -1 by unfold Nm.cmpN; rw [if_pos h]]
      simp
      refine WS_cond (t := true) (by simp) (fun _ => ?_) (fun h => by cases h)
      refine WS_reg [] ?_
      simp [V.fits]
      refine WS_seq (WS_reg [] ?_)
      simp
      refine callK s21 ?_
      simp [U]
      refine WS_seq (WS_reg [] ?_)
      simp
      refine callK mm ?_
      simp [V.fits]
      refine WS_ret ?_
      simp
    · rw [if_pos (by omega), ← hD] at s12
      have ec : ¬ Nm.cmpN a b < 0 := by unfold Nm.cmpN; rw [if_neg h]; split <;> omega
      simp [ec]
      refine WS_cond (t := false) (by simp) (fun h => by cases h) (fun _ => ?_)
      refine WS_skip ?_
      simp
      refine WS_seq (WS_reg [] ?_)
      simp
      refine callK s12 ?_
      simp [U]
      refine WS_seq (WS_reg [] ?_)
      simp
      refine callK mm ?_
      simp [V.fits]
      refine WS_ret ?_
      simp
end Go.Vw
