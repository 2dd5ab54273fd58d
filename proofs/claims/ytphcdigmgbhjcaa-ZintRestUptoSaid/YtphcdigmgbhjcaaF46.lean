/- Texts of integers, of both. -/
import Derived.Test.YtphcdigmgbhjcaaF45
set_option linter.unusedVariables false
set_option linter.unusedSimpArgs false
namespace Go.Vw
open Go.Proofs

attribute [local simp] RunL_cons RunL_nil AOp_none AOp_some acK_v acK_call agK_tt agK_ff agK_tf agK_ft agK_tup agK_i aop aun St.ev St.heap St.put thenQ blockQ upd_apply S0 argSlot lowV V.cells V.isAgg V.fits V.part partOk plains St.ret retSV svOf svsOf retQ retP retAll retOne uL_length uL_get? uL_get St.elems retH ownIdx ownAt
attribute [local simp] RunD_none RunD_some RunD_nil RunE_any acD_v acD_call agD_tt agD_ff agD_tf agD_ft agD_tup entsOf svref SO.opds SO.writes SO.makes callEnt pureSV pureOf RV.isOwn
attribute [local simp] abin_add abin_sub abin_mul abin_quo abin_rem abin_eql abin_neq abin_lss abin_leq abin_gtr abin_geq
attribute [local simp] uL_snoc uL_set uL_take uL_drop uL_append uL_replicate uL_nil
attribute [local simp] acK_callG acD_callG St.giv gsSV gvSV retEnts ownEnts SO.still
attribute [local simp] S0G argSlotG givSV retQG retPG retAllG retOneG HObj.width V.scalar trimQ V.byte
attribute [local simp] zv V.fits fillOk fillV Z_eq
theorem isZ_neg {k : Nat} {n : Bool} {l : List Nat} (h : ZW k l) (hx : zi n l < 0) : n = true := by
  cases n
  · exfalso; simp [zi] at hx; omega
  · rfl

theorem ztext {k : Nat} {v : V} {x : Int} (hv : IsZ k v x) (hk : k ≤ 2 ^ 35) : Spec Try.prog f_zint_Text [v] (· = [.pure (tx (zT x))]) := by
  have sg := zsign hv (by omega)
  obtain ⟨n, l, rfl, h, rfl⟩ := hv
  have c := h.len
  have tt := ntext_spec l h.dl (by omega)
  have hlt := Nm.decT_length (Nm.val_lt h.dl)
  simp only [zv] at sg
  refine spec_at Try.func65 ok_zint_Text [] rfl (by simp) ?_
  unfold sc_zint_Text
  by_cases hx : zi n l < 0
  · rw [sign_lt hx] at sg
    have e : tx (zT (zi n l)) = .s (⟨#[45]⟩ ++ ⟨(Nm.decT (Nm.val 18446744073709551616 l)).toArray⟩) := by
      rw [zT, if_pos hx, zi_abs, tx]
      exact congrArg V.s (bmk_append [45] _).symm
    rw [e]
    obtain ⟨T, hT⟩ : ∃ T, T = Nm.decT (Nm.val 18446744073709551616 l) := ⟨_, rfl⟩
    rw [← hT] at tt hlt ⊢
    have hsz := bmk_size T
    have hmx : ((1 + T.length : Nat) : Int) ≤ IntKind.i64.max := by simp [IntKind.max, IntKind.signed, IntKind.bits]; omega
    obtain ⟨B, hB⟩ : ∃ B : ByteArray, B = ⟨T.toArray⟩ := ⟨_, rfl⟩
    rw [← hB] at tt hsz ⊢
    rw [← hsz] at hmx
    have hmx' : (((⟨#[45]⟩ : ByteArray).size + B.size : Nat) : Int) ≤ IntKind.i64.max := hmx
    have cat : abin .add (.s ⟨#[45]⟩) (.s B) = some (True, .s (⟨#[45]⟩ ++ B)) := by rw [abin_cat]; simp only [hmx']
    refine WS_seq ?_
    refine WS_reg [] ?_
    simp [U, cat]
    refine WS_seq ?_
    refine WS_seq ?_
    refine WS_reg [] ?_
    simp [U, cat]
    refine callK sg ?_
    simp [U, cat]
    refine WS_cond (t := true) (by simp [U, cat]) (fun _ => ?_) (fun h => by cases h)
    refine WS_seq ?_
    refine WS_reg [] ?_
    simp [U, cat]
    refine callK tt ?_
    simp [U, cat]
    refine WS_ret ?_
    simp [U, cat]
  · have e : tx (zT (zi n l)) = .s ⟨(Nm.decT (Nm.val 18446744073709551616 l)).toArray⟩ := by rw [zT, if_neg hx, zi_abs]; rfl
    rw [e]
    have hs : ¬ (zi n l).sign < 0 := by
      rcases Int.lt_or_eq_of_le (Int.not_lt.1 hx) with h | h
      · rw [sign_gt h]; omega
      · rw [← h]; simp
    refine WS_seq ?_
    refine WS_reg [] ?_
    simp [U, hs]
    refine WS_seq ?_
    refine WS_seq ?_
    refine WS_reg [] ?_
    simp [U, hs]
    refine callK sg ?_
    simp [U, hs]
    refine WS_cond (t := false) (by simp [U, hs]) (fun h => by cases h) (fun _ => ?_)
    refine WS_skip ?_
    simp [U, hs]
    refine WS_seq ?_
    refine WS_reg [] ?_
    simp [U, hs]
    refine callK tt ?_
    simp [U, hs]
    refine WS_ret ?_
    simp [U, hs]

theorem rztext {k : Nat} {v : V} {x : Int} (hv : IsZ k v x) (hk : k ≤ 2 ^ 35) : Spec Try.prog f_ref02_Text [v] (· = [.pure (tx (zT x))]) := by
  have sg := rsign hv (by omega)
  obtain ⟨n, l, rfl, h, rfl⟩ := hv
  have c := h.len
  have tt := rtext_spec l h.dl (by omega)
  have hlt := Nm.decT_length (Nm.val_lt h.dl)
  simp only [zv] at sg
  refine spec_at Try.func66 ok_ref02_Text [] rfl (by simp) ?_
  unfold sc_ref02_Text
  by_cases hx : zi n l < 0
  · rw [sign_lt hx] at sg
    have e : tx (zT (zi n l)) = .s (⟨#[45]⟩ ++ ⟨(Nm.decT (Nm.val 18446744073709551616 l)).toArray⟩) := by
      rw [zT, if_pos hx, zi_abs, tx]
      exact congrArg V.s (bmk_append [45] _).symm
    rw [e]
    obtain ⟨T, hT⟩ : ∃ T, T = Nm.decT (Nm.val 18446744073709551616 l) := ⟨_, rfl⟩
    rw [← hT] at tt hlt ⊢
    have hsz := bmk_size T
    have hmx : ((1 + T.length : Nat) : Int) ≤ IntKind.i64.max := by simp [IntKind.max, IntKind.signed, IntKind.bits]; omega
    obtain ⟨B, hB⟩ : ∃ B : ByteArray, B = ⟨T.toArray⟩ := ⟨_, rfl⟩
    rw [← hB] at tt hsz ⊢
    rw [← hsz] at hmx
    have hmx' : (((⟨#[45]⟩ : ByteArray).size + B.size : Nat) : Int) ≤ IntKind.i64.max := hmx
    have cat : abin .add (.s ⟨#[45]⟩) (.s B) = some (True, .s (⟨#[45]⟩ ++ B)) := by rw [abin_cat]; simp only [hmx']
    refine WS_seq ?_
    refine WS_reg [] ?_
    simp [U, cat]
    refine WS_seq ?_
    refine WS_seq ?_
    refine WS_reg [] ?_
    simp [U, cat]
    refine callK sg ?_
    simp [U, cat]
    refine WS_cond (t := true) (by simp [U, cat]) (fun _ => ?_) (fun h => by cases h)
    refine WS_seq ?_
    refine WS_reg [] ?_
    simp [U, cat]
    refine callK tt ?_
    simp [U, cat]
    refine WS_ret ?_
    simp [U, cat]
  · have e : tx (zT (zi n l)) = .s ⟨(Nm.decT (Nm.val 18446744073709551616 l)).toArray⟩ := by rw [zT, if_neg hx, zi_abs]; rfl
    rw [e]
    have hs : ¬ (zi n l).sign < 0 := by
      rcases Int.lt_or_eq_of_le (Int.not_lt.1 hx) with h | h
      · rw [sign_gt h]; omega
      · rw [← h]; simp
    refine WS_seq ?_
    refine WS_reg [] ?_
    simp [U, hs]
    refine WS_seq ?_
    refine WS_seq ?_
    refine WS_reg [] ?_
    simp [U, hs]
    refine callK sg ?_
    simp [U, hs]
    refine WS_cond (t := false) (by simp [U, hs]) (fun h => by cases h) (fun _ => ?_)
    refine WS_skip ?_
    simp [U, hs]
    refine WS_seq ?_
    refine WS_reg [] ?_
    simp [U, hs]
    refine callK tt ?_
    simp [U, hs]
    refine WS_ret ?_
    simp [U, hs]

theorem index0 (l : List UInt8) (c : UInt8) (r : List UInt8) (h : l = c :: r) : ((⟨l.toArray⟩ : ByteArray).data.toList.getD 0 0) = c := by subst h; rfl

theorem rzparse (l : List UInt8) (hl : l.length ≤ 2 ^ 40) : Spec Try.prog f_ref02_Parse [tx l] (· = zPR (zP l)) := by
  refine spec_at Try.func64 ok_ref02_Parse [] rfl (by simp) ?_
  unfold sc_ref02_Parse
  by_cases hm : l.head? = some 45
  · obtain ⟨r, hlr, e1, e2⟩ := minus_true hm
    have np := rparse_spec ⟨r.toArray⟩ (by rw [bmk_size]; rw [hlr] at hl; simp at hl; omega)
    subst hlr
    rw [zP_minus]
    have hx := bmk_extract (45 :: r) 1 (r.length + 1)
    rw [show ((45 :: r).take (r.length + 1)).drop 1 = r by simp] at hx
    simp only at np
    cases h : parseV r with
    | none =>
      rw [h] at np
      simp only [parseR] at np
      refine WS_seq ?_
      refine WS_reg [] ?_
      simp [tx, zPR, zn_false, zl_nil, bmk_size, hx]
      refine WS_seq ?_
      refine WS_reg [] ?_
      simp [tx, zPR, zn_false, zl_nil, bmk_size, hx]
      refine WS_seq ?_
      refine WS_seq ?_
      refine WS_reg [] ?_
      simp [tx, zPR, zn_false, zl_nil, bmk_size, hx]
      refine WS_cond (t := true) (by simp [tx, zPR, zn_false, zl_nil, bmk_size, hx]) (fun _ => ?_) (fun h => by cases h)
      refine WS_reg [] ?_
      simp [tx, zPR, zn_false, zl_nil, bmk_size, hx]
      refine ⟨by omega, ?_⟩
      refine WS_seq ?_
      refine WS_reg [] ?_
      simp [tx, zPR, zn_false, zl_nil, bmk_size, hx]
      refine callK np ?_
      simp [tx, zPR, zn_false, zl_nil, bmk_size, hx]
      refine WS_seq ?_
      refine WS_seq ?_
      refine WS_reg [] ?_
      simp [tx, zPR, zn_false, zl_nil, bmk_size, hx]
      refine WS_cond (t := true) (by simp [tx, zPR, zn_false, zl_nil, bmk_size, hx]) (fun _ => ?_) (fun h => by cases h)
      refine WS_seq ?_
      refine WS_reg [] ?_
      simp [tx, zPR, zn_false, zl_nil, bmk_size, hx]
      refine WS_ret ?_
      simp [tx, zPR, zn_false, zl_nil, bmk_size, hx]
    | some v =>
      rw [h] at np
      simp only [parseR] at np
      by_cases h0 : v = 0
      · simp only [h0, if_true]
        rw [h0, Nm.dig_zero] at np
        refine WS_seq ?_
        refine WS_reg [] ?_
        simp [tx, zPR, zn_false, zl_nil, U, bmk_size, hx]
        refine WS_seq ?_
        refine WS_reg [] ?_
        simp [tx, zPR, zn_false, zl_nil, U, bmk_size, hx]
        refine WS_seq ?_
        refine WS_seq ?_
        refine WS_reg [] ?_
        simp [tx, zPR, zn_false, zl_nil, U, bmk_size, hx]
        refine WS_cond (t := true) (by simp [tx, zPR, zn_false, zl_nil, U, bmk_size, hx]) (fun _ => ?_) (fun h => by cases h)
        refine WS_reg [] ?_
        simp [tx, zPR, zn_false, zl_nil, U, bmk_size, hx]
        refine ⟨by omega, ?_⟩
        refine WS_seq ?_
        refine WS_reg [] ?_
        simp [tx, zPR, zn_false, zl_nil, U, bmk_size, hx]
        refine callK np ?_
        simp [tx, zPR, zn_false, zl_nil, U, bmk_size, hx]
        refine WS_seq ?_
        refine WS_seq ?_
        refine WS_reg [] ?_
        simp [tx, zPR, zn_false, zl_nil, U, bmk_size, hx]
        refine WS_cond (t := true) (by simp [tx, zPR, zn_false, zl_nil, U, bmk_size, hx]) (fun _ => ?_) (fun h => by cases h)
        refine WS_seq ?_
        refine WS_reg [] ?_
        simp [tx, zPR, zn_false, zl_nil, U, bmk_size, hx]
        refine WS_ret ?_
        simp [tx, zPR, zn_false, zl_nil, U, bmk_size, hx]
      · simp only [h0, if_false]
        have d0 : ¬ Nm.dig 18446744073709551616 v = [] := by rw [Nm.dig_nil (by omega)]; exact h0
        have en : zn (-(v : Int)) = true := zn_true (by omega)
        have el : zl (-(v : Int)) = Nm.dig 18446744073709551616 v := by simp [zl]
        obtain ⟨D, hD⟩ : ∃ D, D = Nm.dig 18446744073709551616 v := ⟨_, rfl⟩
        rw [← hD] at np d0 el
        refine WS_seq ?_
        refine WS_reg [] ?_
        simp [tx, zPR, U, d0, bmk_size, hx, en, el]
        refine WS_seq ?_
        refine WS_reg [] ?_
        simp [tx, zPR, U, d0, bmk_size, hx, en, el]
        refine WS_seq ?_
        refine WS_seq ?_
        refine WS_reg [] ?_
        simp [tx, zPR, U, d0, bmk_size, hx, en, el]
        refine WS_cond (t := true) (by simp [tx, zPR, U, d0, bmk_size, hx, en, el]) (fun _ => ?_) (fun h => by cases h)
        refine WS_reg [] ?_
        simp [tx, zPR, U, d0, bmk_size, hx, en, el]
        refine ⟨by omega, ?_⟩
        refine WS_seq ?_
        refine WS_reg [] ?_
        simp [tx, zPR, U, d0, bmk_size, hx, en, el]
        refine callK np ?_
        simp [tx, zPR, U, d0, bmk_size, hx, en, el]
        refine WS_seq ?_
        refine WS_seq ?_
        refine WS_reg [] ?_
        simp [tx, zPR, U, d0, bmk_size, hx, en, el]
        refine WS_cond (t := false) (by simp [tx, zPR, U, d0, bmk_size, hx, en, el]) (fun h => by cases h) (fun _ => ?_)
        refine WS_skip ?_
        simp [tx, zPR, U, d0, bmk_size, hx, en, el]
        refine WS_seq ?_
        refine WS_reg [] ?_
        simp [tx, zPR, U, d0, bmk_size, hx, en, el]
        refine WS_ret ?_
        simp [tx, zPR, U, d0, bmk_size, hx, en, el]
  · have np := rparse_spec ⟨l.toArray⟩ (by rw [bmk_size]; omega)
    rw [zP_plain hm]
    simp only at np
    have main : ∀ S : St, S.σ 0 = .p (tx l) → S.σ 4 = .p (.b false) → S.σ 2 = .ptr 2 1 0 → S.h 2 = ⟨1, some (.box 43 [.b false, .sl none []])⟩ → WS Try.prog 37 sc_ref02_Parse.snd.snd (retQ [.cell 2 (some 2), .tmp 3] [] (· = zPR ((parseV l).map fun v => (v : Int)))) S := by
      intro S s0 s4 s2 h2
      unfold sc_ref02_Parse
      simp only [SC.snd]
      cases h : parseV l with
      | none =>
        rw [h] at np
        simp only [parseR] at np
        refine WS_seq ?_
        refine WS_seq ?_
        refine WS_reg [] ?_
        simp [s0, s4, s2, h2, tx, zPR, zn_false, zl_nil]
        refine WS_cond (t := false) (by simp [s0, s4, s2, h2, tx, zPR, zn_false, zl_nil]) (fun h => by cases h) (fun _ => ?_)
        refine WS_skip ?_
        simp [s0, s4, s2, h2, tx, zPR, zn_false, zl_nil]
        refine WS_seq ?_
        refine WS_reg [] ?_
        simp [s0, s4, s2, h2, tx, zPR, zn_false, zl_nil]
        refine callK np ?_
        simp [s0, s4, s2, h2, tx, zPR, zn_false, zl_nil]
        refine WS_seq ?_
        refine WS_seq ?_
        refine WS_reg [] ?_
        simp [s0, s4, s2, h2, tx, zPR, zn_false, zl_nil]
        refine WS_cond (t := true) (by simp [s0, s4, s2, h2, tx, zPR, zn_false, zl_nil]) (fun _ => ?_) (fun h => by cases h)
        refine WS_seq ?_
        refine WS_reg [] ?_
        simp [s0, s4, s2, h2, tx, zPR, zn_false, zl_nil]
        refine WS_ret ?_
        simp [s0, s4, s2, h2, tx, zPR, zn_false, zl_nil]
      | some v =>
        rw [h] at np
        simp only [parseR] at np
        have en : zn (v : Int) = false := zn_false (by omega)
        have el : zl (v : Int) = Nm.dig 18446744073709551616 v := by simp [zl]
        obtain ⟨D, hD⟩ : ∃ D, D = Nm.dig 18446744073709551616 v := ⟨_, rfl⟩
        rw [← hD] at np el
        refine WS_seq ?_
        refine WS_seq ?_
        refine WS_reg [] ?_
        simp [s0, s4, s2, h2, tx, zPR, U, en, el]
        refine WS_cond (t := false) (by simp [s0, s4, s2, h2, tx, zPR, U, en, el]) (fun h => by cases h) (fun _ => ?_)
        refine WS_skip ?_
        simp [s0, s4, s2, h2, tx, zPR, U, en, el]
        refine WS_seq ?_
        refine WS_reg [] ?_
        simp [s0, s4, s2, h2, tx, zPR, U, en, el]
        refine callK np ?_
        simp [s0, s4, s2, h2, tx, zPR, U, en, el]
        refine WS_seq ?_
        refine WS_seq ?_
        refine WS_reg [] ?_
        simp [s0, s4, s2, h2, tx, zPR, U, en, el]
        refine WS_cond (t := false) (by simp [s0, s4, s2, h2, tx, zPR, U, en, el]) (fun h => by cases h) (fun _ => ?_)
        refine WS_skip ?_
        simp [s0, s4, s2, h2, tx, zPR, U, en, el]
        refine WS_seq ?_
        refine WS_reg [] ?_
        simp [s0, s4, s2, h2, tx, zPR, U, en, el]
        refine WS_ret ?_
        simp [s0, s4, s2, h2, tx, zPR, U, en, el]
    obtain ⟨RR, hRR⟩ : ∃ RR, RR = zPR ((parseV l).map fun v => (v : Int)) := ⟨_, rfl⟩
    rw [← hRR] at main ⊢
    clear hRR np
    unfold sc_ref02_Parse at main
    simp only [SC.snd] at main
    cases l with
    | nil =>
      refine WS_seq (WS_reg [] ?_)
      simp [tx]
      refine WS_seq (WS_reg [] ?_)
      simp [show (⟨#[]⟩ : ByteArray).size = 0 from rfl]
      exact main _ (by simp [tx]) (by simp) (by simp) (by simp)
    | cons c r =>
      have hc : c ≠ 45 := fun e => hm (by simp [e])
      have hcn : ((c.toNat : Int) == 45) = false := by
        have : c.toNat ≠ 45 := fun e => hc (by rw [← UInt8.ofNat_toNat (x := c), e]; rfl)
        simp; omega
      refine WS_seq (WS_reg [] ?_)
      simp [tx]
      refine WS_seq (WS_reg [] ?_)
      simp [bmk_size, hcn]
      exact main _ (by simp [tx]) (by simp) (by simp) (by simp)
end Go.Vw
