/- Texts of integers. -/
import Derived.Test.YtphcdigmgbhjcaaF44
import Derived.Test.YtphcdigmgbhjcaaS3
set_option linter.unusedVariables false
set_option linter.unusedSimpArgs false
namespace Go.Vw
open Go.Proofs

theorem bmk_append (a b : List UInt8) : (⟨a.toArray⟩ : ByteArray) ++ ⟨b.toArray⟩ = ⟨(a ++ b).toArray⟩ := by
  refine ByteArray.ext ?_
  rw [ByteArray.data_append]; simp

theorem bmk_size (a : List UInt8) : (⟨a.toArray⟩ : ByteArray).size = a.length := by simp [ByteArray.size]

theorem bmk_extract (a : List UInt8) (i j : Nat) : (⟨a.toArray⟩ : ByteArray).extract i j = ⟨((a.take j).drop i).toArray⟩ := by
  refine ByteArray.ext ?_
  rw [ByteArray.data_extract]; simp [List.extract_eq_take_drop, List.drop_take]

theorem bmk_list (a : List UInt8) : (⟨a.toArray⟩ : ByteArray).toList = a := by rw [ByteArray.toList_eq]

/-- A text's letters. -/
def tx (l : List UInt8) : V := .s ⟨l.toArray⟩
theorem tx_of (s : ByteArray) : V.s s = tx s.data.toList := by simp [tx]

/-- An integer's digits. -/
def zT (x : Int) : List UInt8 := if x < 0 then 45 :: Nm.decT x.natAbs else Nm.decT x.natAbs

/-- The integer of a text. -/
def zP : List UInt8 → Option Int
  | 45 :: r => match parseV r with
    | some v => if v = 0 then none else some (-(v : Int))
    | none => none
  | l => (parseV l).map fun v => (v : Int)

def zPR : Option Int → List RV
  | none => [.pure (Z 0), .pure (.i .i64 2)]
  | some z => [.pure (Z z), .pure (.i .i64 0)]

theorem zP_plain {l : List UInt8} (h : l.head? ≠ some 45) : zP l = (parseV l).map fun v => (v : Int) := by
  cases l with
  | nil => rfl
  | cons c r =>
    unfold zP
    split
    · rename_i he; simp only [List.cons.injEq] at he; simp [he.1] at h
    · rfl

theorem zP_minus (r : List UInt8) : zP (45 :: r) = (match parseV r with | some v => if v = 0 then none else some (-(v : Int)) | none => none) := rfl

attribute [local simp] RunL_cons RunL_nil AOp_none AOp_some acK_v acK_call agK_tt agK_ff agK_tf agK_ft agK_tup agK_i aop aun St.ev St.heap St.put thenQ blockQ upd_apply S0 argSlot lowV V.cells V.isAgg V.fits V.part partOk plains St.ret retSV svOf svsOf retQ retP retAll retOne uL_length uL_get? uL_get St.elems retH ownIdx ownAt
attribute [local simp] RunD_none RunD_some RunD_nil RunE_any acD_v acD_call agD_tt agD_ff agD_tf agD_ft agD_tup entsOf svref SO.opds SO.writes SO.makes callEnt pureSV pureOf RV.isOwn
attribute [local simp] abin_add abin_sub abin_mul abin_quo abin_rem abin_eql abin_neq abin_lss abin_leq abin_gtr abin_geq
attribute [local simp] uL_snoc uL_set uL_take uL_drop uL_append uL_replicate uL_nil
attribute [local simp] acK_callG acD_callG St.giv gsSV gvSV retEnts ownEnts SO.still
attribute [local simp] S0G argSlotG givSV retQG retPG retAllG retOneG HObj.width V.scalar trimQ V.byte
attribute [local simp] zv V.fits fillOk fillV Z_eq
theorem hasPrefix_spec (l p : List UInt8) (hl : l.length ≤ 2 ^ 40) (hp : p.length ≤ 2 ^ 40) : Spec Try.prog f_stringslite_HasPrefix [tx l, tx p] (· = [.pure (.b (decide (p.length ≤ l.length) && (l.take p.length == p)))]) := by
  refine spec_at Try.func177 ok_stringslite_HasPrefix [] rfl (by simp) ?_
  unfold sc_stringslite_HasPrefix
  by_cases h : p.length ≤ l.length
  · have h' : (p.length : Int) ≤ (l.length : Int) := by omega
    refine WS_seq ?_
    refine WS_reg [] ?_
    simp [tx, bmk_size, h, h', bmk_extract, abin_seql, bmk_list]
    refine WS_seq ?_
    refine WS_reg [] ?_
    simp [tx, bmk_size, h, h', bmk_extract, abin_seql, bmk_list]
    refine WS_ret ?_
    simp [tx, bmk_size, h, h', bmk_extract, abin_seql, bmk_list]
  · have h' : ¬ (p.length : Int) ≤ (l.length : Int) := by omega
    refine WS_seq ?_
    refine WS_reg [] ?_
    simp [tx, bmk_size, h, h']
    refine WS_seq ?_
    refine WS_reg [] ?_
    simp [tx, bmk_size, h, h']
    refine WS_ret ?_
    simp [tx, bmk_size, h, h']

theorem cutPrefix1_spec (l p : List UInt8) (hl : l.length ≤ 2 ^ 40) (hp : p.length ≤ 2 ^ 40) : Spec Try.prog f_stringslite_CutPrefix [tx l, tx p] (· = if decide (p.length ≤ l.length) && (l.take p.length == p) then [.pure (tx (l.drop p.length)), .pure (.b true)] else [.pure (tx l), .pure (.b false)]) := by
  have hs := hasPrefix_spec l p hl hp
  refine spec_at Try.func171 ok_stringslite_CutPrefix [] rfl (by simp) ?_
  unfold sc_stringslite_CutPrefix
  simp only [tx] at hs
  cases h : (decide (p.length ≤ l.length) && (l.take p.length == p)) with
  | true =>
    rw [h] at hs
    have hle : p.length ≤ l.length := by simp at h; exact h.1
    have h' : (p.length : Int) ≤ (l.length : Int) := by omega
    refine WS_seq ?_
    refine WS_reg [] ?_
    simp [tx, bmk_size, bmk_extract, h', hle]
    refine WS_seq ?_
    refine WS_seq ?_
    refine WS_reg [] ?_
    simp [tx, bmk_size, bmk_extract, h', hle]
    refine callK hs ?_
    simp [tx, bmk_size, bmk_extract, h', hle]
    refine WS_cond (t := false) (by simp [tx, bmk_size, bmk_extract, h', hle]) (fun h => by cases h) (fun _ => ?_)
    refine WS_skip ?_
    simp [tx, bmk_size, bmk_extract, h', hle]
    refine WS_seq ?_
    refine WS_reg [] ?_
    simp [tx, bmk_size, bmk_extract, h', hle]
    refine WS_ret ?_
    simp [tx, bmk_size, bmk_extract, h', hle]
  | false =>
    rw [h] at hs
    refine WS_seq ?_
    refine WS_reg [] ?_
    simp [tx]
    refine WS_seq ?_
    refine WS_seq ?_
    refine WS_reg [] ?_
    simp [tx]
    refine callK hs ?_
    simp [tx]
    refine WS_cond (t := true) (by simp [tx]) (fun _ => ?_) (fun h => by cases h)
    refine WS_seq ?_
    refine WS_reg [] ?_
    simp [tx]
    refine WS_ret ?_
    simp [tx]

theorem cutPrefix_spec (l p : List UInt8) (hl : l.length ≤ 2 ^ 40) (hp : p.length ≤ 2 ^ 40) : Spec Try.prog f_strings_CutPrefix [tx l, tx p] (· = if decide (p.length ≤ l.length) && (l.take p.length == p) then [.pure (tx (l.drop p.length)), .pure (.b true)] else [.pure (tx l), .pure (.b false)]) := by
  have hs := cutPrefix1_spec l p hl hp
  refine spec_at Try.func154 ok_strings_CutPrefix [] rfl (by simp) ?_
  unfold sc_strings_CutPrefix
  simp only [tx] at hs
  cases h : (decide (p.length ≤ l.length) && (l.take p.length == p)) with
  | true =>
    rw [h, if_pos rfl] at hs
    refine WS_seq ?_
    refine WS_reg [] ?_
    simp [tx]
    refine WS_seq ?_
    refine WS_reg [] ?_
    simp [tx]
    refine callK hs ?_
    simp [tx]
    refine WS_ret ?_
    simp [tx]
  | false =>
    rw [h, if_neg (by simp)] at hs
    refine WS_seq ?_
    refine WS_reg [] ?_
    simp [tx]
    refine WS_seq ?_
    refine WS_reg [] ?_
    simp [tx]
    refine callK hs ?_
    simp [tx]
    refine WS_ret ?_
    simp [tx]

theorem minus_true {l : List UInt8} (h : l.head? = some 45) : ∃ r, l = 45 :: r ∧ (decide (([45] : List UInt8).length ≤ l.length) && (l.take ([45] : List UInt8).length == [45])) = true ∧ l.drop ([45] : List UInt8).length = r := by
  cases l with
  | nil => cases h
  | cons c r =>
    simp only [List.head?_cons, Option.some.injEq] at h
    subst h
    exact ⟨r, rfl, by simp, rfl⟩

theorem minus_false {l : List UInt8} (h : l.head? ≠ some 45) : (decide (([45] : List UInt8).length ≤ l.length) && (l.take ([45] : List UInt8).length == [45])) = false := by
  cases l with
  | nil => rfl
  | cons c r =>
    have : c ≠ 45 := fun e => h (by simp [e])
    simp [this]

theorem dlen_zero (v : Nat) : (((Nm.dig 18446744073709551616 v).length : Int) == 0) = decide (v = 0) := by
  by_cases h : v = 0
  · subst h; rfl
  · have := Nm.dig_length_pos (B := 18446744073709551616) (by omega) h
    simp [h]
    intro e
    rw [e] at this
    simp at this

theorem zparse (l : List UInt8) (hl : l.length ≤ 2 ^ 40) : Spec Try.prog f_zint_Parse [tx l] (· = zPR (zP l)) := by
  have ct := cutPrefix_spec l [45] hl (by simp)
  have mk : ∀ (n : Bool) (v : Nat) (L : Nat), v < 18446744073709551616 ^ L → L ≤ 4096 → Spec Try.prog f_zint_made [.b n, .sl none (uL (Nm.dig 18446744073709551616 v))] (· = [.pure (Z (if n then -(v : Int) else (v : Int)))]) := by
    intro n m L hm hL
    have := made_spec n (Nm.dig 18446744073709551616 m) ((zw_dig hm).mono (by omega))
    rwa [zi, Nm.val_dig (by omega)] at this
  refine spec_at Try.func63 ok_zint_Parse [] rfl (by simp) ?_
  unfold sc_zint_Parse
  by_cases hm : l.head? = some 45
  · obtain ⟨r, hlr, e1, e2⟩ := minus_true hm
    rw [e1, if_pos rfl, e2] at ct
    have np := nparse_spec ⟨r.toArray⟩ (by rw [bmk_size]; rw [hlr] at hl; simp at hl; omega)
    simp only [tx] at ct
    rw [hlr, zP_minus]
    rw [hlr] at ct
    simp only at np
    cases h : parseV r with
    | none =>
      rw [h] at np
      simp only [parseR] at np
      refine WS_seq ?_
      refine WS_reg [] ?_
      simp [tx, zPR, zn_false, zl_nil]
      refine WS_seq ?_
      refine WS_reg [] ?_
      simp [tx, zPR, zn_false, zl_nil]
      refine callK ct ?_
      simp [tx, zPR, zn_false, zl_nil]
      refine WS_seq ?_
      refine WS_reg [] ?_
      simp [tx, zPR, zn_false, zl_nil]
      refine callK np ?_
      simp [tx, zPR, zn_false, zl_nil]
      refine WS_seq ?_
      refine WS_seq ?_
      refine WS_reg [] ?_
      simp [tx, zPR, zn_false, zl_nil]
      refine WS_cond (t := true) (by simp [tx, zPR, zn_false, zl_nil]) (fun _ => ?_) (fun h => by cases h)
      refine WS_seq ?_
      refine WS_reg [] ?_
      simp [tx, zPR, zn_false, zl_nil]
      refine WS_ret ?_
      simp [tx, zPR, zn_false, zl_nil]
    | some v =>
      rw [h] at np
      simp only [parseR] at np
      have dz := dlen_zero v
      have m := mk true v _ (parse_val_lt h) (parseV_len h)
      by_cases h0 : v = 0
      · rw [decide_eq_true h0] at dz
        simp only [h0, if_true]
        rw [h0, Nm.dig_zero] at np
        refine WS_seq ?_
        refine WS_reg [] ?_
        simp [tx, zPR, zn_false, zl_nil, U]
        refine WS_seq ?_
        refine WS_reg [] ?_
        simp [tx, zPR, zn_false, zl_nil, U]
        refine callK ct ?_
        simp [tx, zPR, zn_false, zl_nil, U]
        refine WS_seq ?_
        refine WS_reg [] ?_
        simp [tx, zPR, zn_false, zl_nil, U]
        refine callK np ?_
        simp [tx, zPR, zn_false, zl_nil, U]
        refine WS_seq ?_
        refine WS_seq ?_
        refine WS_reg [] ?_
        simp [tx, zPR, zn_false, zl_nil, U]
        refine WS_cond (t := true) (by simp [tx, zPR, zn_false, zl_nil, U]) (fun _ => ?_) (fun h => by cases h)
        refine WS_seq ?_
        refine WS_reg [] ?_
        simp [tx, zPR, zn_false, zl_nil, U]
        refine WS_ret ?_
        simp [tx, zPR, zn_false, zl_nil, U]
      · rw [decide_eq_false h0] at dz
        simp only [h0, if_false]
        rw [if_pos rfl] at m
        have d0 : ¬ Nm.dig 18446744073709551616 v = [] := by rw [Nm.dig_nil (by omega)]; exact h0
        obtain ⟨D, hD⟩ : ∃ D, D = Nm.dig 18446744073709551616 v := ⟨_, rfl⟩
        rw [← hD] at np m d0
        refine WS_seq ?_
        refine WS_reg [] ?_
        simp [tx, zPR, U, d0]
        refine WS_seq ?_
        refine WS_reg [] ?_
        simp [tx, zPR, U, d0]
        refine callK ct ?_
        simp [tx, zPR, U, d0]
        refine WS_seq ?_
        refine WS_reg [] ?_
        simp [tx, zPR, U, d0]
        refine callK np ?_
        simp [tx, zPR, U, d0]
        refine WS_seq ?_
        refine WS_seq ?_
        refine WS_reg [] ?_
        simp [tx, zPR, U, d0]
        refine WS_cond (t := false) (by simp [tx, zPR, U, d0]) (fun h => by cases h) (fun _ => ?_)
        refine WS_skip ?_
        simp [tx, zPR, U, d0]
        refine WS_seq ?_
        refine WS_reg [] ?_
        simp [tx, zPR, U, d0]
        refine callK m ?_
        simp [tx, zPR, U, d0]
        refine WS_ret ?_
        simp [tx, zPR, U, d0]
  · rw [minus_false hm, if_neg (by simp)] at ct
    have np := nparse_spec ⟨l.toArray⟩ (by rw [bmk_size]; omega)
    simp only [tx] at ct
    rw [zP_plain hm]
    simp only at np
    cases h : parseV l with
    | none =>
      rw [h] at np
      simp only [parseR] at np
      refine WS_seq ?_
      refine WS_reg [] ?_
      simp [tx, zPR, zn_false, zl_nil]
      refine WS_seq ?_
      refine WS_reg [] ?_
      simp [tx, zPR, zn_false, zl_nil]
      refine callK ct ?_
      simp [tx, zPR, zn_false, zl_nil]
      refine WS_seq ?_
      refine WS_reg [] ?_
      simp [tx, zPR, zn_false, zl_nil]
      refine callK np ?_
      simp [tx, zPR, zn_false, zl_nil]
      refine WS_seq ?_
      refine WS_seq ?_
      refine WS_reg [] ?_
      simp [tx, zPR, zn_false, zl_nil]
      refine WS_cond (t := true) (by simp [tx, zPR, zn_false, zl_nil]) (fun _ => ?_) (fun h => by cases h)
      refine WS_seq ?_
      refine WS_reg [] ?_
      simp [tx, zPR, zn_false, zl_nil]
      refine WS_ret ?_
      simp [tx, zPR, zn_false, zl_nil]
    | some v =>
      rw [h] at np
      simp only [parseR] at np
      have m := mk false v _ (parse_val_lt h) (parseV_len h)
      rw [if_neg (by simp)] at m
      obtain ⟨D, hD⟩ : ∃ D, D = Nm.dig 18446744073709551616 v := ⟨_, rfl⟩
      rw [← hD] at np m
      refine WS_seq ?_
      refine WS_reg [] ?_
      simp [tx, zPR, U]
      refine WS_seq ?_
      refine WS_reg [] ?_
      simp [tx, zPR, U]
      refine callK ct ?_
      simp [tx, zPR, U]
      refine WS_seq ?_
      refine WS_reg [] ?_
      simp [tx, zPR, U]
      refine callK np ?_
      simp [tx, zPR, U]
      refine WS_seq ?_
      refine WS_seq ?_
      refine WS_reg [] ?_
      simp [tx, zPR, U]
      refine WS_cond (t := false) (by simp [tx, zPR, U]) (fun h => by cases h) (fun _ => ?_)
      refine WS_skip ?_
      simp [tx, zPR, U]
      refine WS_seq ?_
      refine WS_reg [] ?_
      simp [tx, zPR, U]
      refine callK m ?_
      simp [tx, zPR, U]
      refine WS_ret ?_
      simp [tx, zPR, U]
end Go.Vw
