/- The contracts of NatTexts and NatBack. -/
import Derived.Test.YtphcdigmgbhjcaaF33
import Derived.Test.YtphcdigmgbhjcaaF23
set_option linter.unusedVariables false
set_option linter.unusedSimpArgs false
namespace Go.Vw
open Go.Proofs

attribute [local simp] RunL_cons RunL_nil AOp_none AOp_some acK_v acK_call agK_tt agK_ff agK_tf agK_ft agK_tup agK_i aop aun St.ev St.heap St.put thenQ blockQ upd_apply S0 argSlot lowV V.cells V.isAgg V.fits V.part partOk plains St.ret retSV svOf svsOf retQ retP retAll retOne uL_length uL_get? uL_get St.elems retH ownIdx ownAt
attribute [local simp] RunD_none RunD_some RunD_nil RunE_any acD_v acD_call agD_tt agD_ff agD_tf agD_ft agD_tup entsOf svref SO.opds SO.writes SO.makes callEnt pureSV pureOf RV.isOwn
attribute [local simp] abin_add abin_sub abin_mul abin_quo abin_rem abin_eql abin_neq abin_lss abin_leq abin_gtr abin_geq
attribute [local simp] uL_snoc uL_set uL_take uL_drop uL_append uL_replicate uL_nil
attribute [local simp] acK_callG acD_callG St.giv gsSV gvSV retEnts ownEnts SO.still
attribute [local simp] S0G argSlotG givSV retQG retPG retAllG retOneG HObj.width V.scalar trimQ V.byte
theorem bytes_mk (s : ByteArray) : (⟨s.data.toList.toArray⟩ : ByteArray) = s := by cases s; rfl

theorem parseV_len {l : List UInt8} {v : Nat} (h : parseV l = some v) : l.length ≤ 4096 := by
  unfold parseV at h
  split at h
  · cases h
  · rename_i hb
    refine Nat.le_of_not_lt fun h2 => hb (.inr (.inl h2))

theorem parse_val_lt {l : List UInt8} {v : Nat} (h : parseV l = some v) : v < 18446744073709551616 ^ l.length := by
  have hl := parseV_len h
  unfold parseV at h
  split at h
  · cases h
  · obtain ⟨ds, h1, h2, h3⟩ := Nm.parse_inv l 0 v h
    rw [Nm.be_val, Nat.zero_mul, Nat.zero_add] at h3
    have h4 := Nm.val_lt (B := 10) (l := ds.reverse) (fun x hx => h1 x (by simpa using hx))
    rw [← h3, List.length_reverse] at h4
    have h5 : ds.length = l.length := by rw [h2]; simp
    rw [h5] at h4
    exact Nat.lt_of_lt_of_le h4 (Nat.pow_le_pow_left (by omega) _)

theorem law_NatTexts (a : List Nat) (ha : Nm.Dl 18446744073709551616 a) (la : a.length ≤ 2 ^ 30) (s : ByteArray) (hs : s.size ≤ 2 ^ 40) :
    Spec Try.prog f_law01_NatTexts [U a, .s s] (· = [.pure (.b true)]) := by
  refine spec_at Try.func8 ok_law01_NatTexts [] rfl (by simp) ?_
  unfold sc_law01_NatTexts
  have p1 := nparse_spec s hs
  have p2 := rparse_spec s hs
  obtain ⟨q, e, hq, hql⟩ : ∃ (q : List Nat) (e : Int), parseR (parseV s.data.toList) = [.pure (U q), .pure (.i .i64 e)] ∧ q.length ≤ 2 ^ 40 := by
    cases h : parseV s.data.toList with
    | none => exact ⟨[], 2, rfl, by simp⟩
    | some v => exact ⟨_, 0, rfl, by have := Nm.dig_length_le (B := 18446744073709551616) (by omega) (parse_val_lt h); have := parseV_len h; omega⟩
  rw [hq] at p1 p2
  have sm := same_spec q hql
  have t1 := ntext_spec a ha (by omega)
  have t2 := rtext_spec a ha (by omega)
  refine WS_seq (WS_reg [] ?_)
  simp
  refine WS_seq (WS_reg [] ?_)
  simp
  refine callK p1 ?_
  simp
  refine WS_seq (WS_reg [] ?_)
  simp
  refine callK p2 ?_
  simp
  refine WS_seq (WS_seq (WS_reg [] ?_))
  simp [U]
  by_cases h : (60 : Int) < (a.length : Int)
  · refine WS_cond (t := true) (by simp; omega) (fun _ => ?_) (fun h => by cases h)
    refine WS_seq (WS_reg [] ?_)
    simp
    refine callK sm ?_
    simp
    refine callK text_nil ?_
    simp [abin_seql]
    refine WS_ret ?_
    simp
  · refine WS_cond (t := false) (by simp; omega) (fun h => by cases h) (fun _ => WS_skip ?_)
    simp
    refine WS_seq (WS_reg [] ?_)
    simp
    refine callK sm ?_
    simp
    refine callK text_nil ?_
    simp [abin_seql]
    refine callK t1 ?_
    simp
    refine callK t2 ?_
    simp [abin_seql]
    refine WS_ret ?_
    simp

theorem law_NatBack (a : List Nat) (ha : Nm.Dl 18446744073709551616 a) (la : a.length ≤ 2 ^ 30) (s : ByteArray) (hs : s.size ≤ 2 ^ 40) :
    Spec Try.prog f_law01_NatBack [U a, .s s] (· = [.pure (.b true)]) := by
  refine spec_at Try.func9 ok_law01_NatBack [] rfl (by simp) ?_
  unfold sc_law01_NatBack
  have p1 := nparse_spec s hs
  have rest : ∀ S : St, S.σ 0 = .p (U a) → WS Try.prog 45 sc_law01_NatBack.snd.snd.snd (retQ [.tmp 4] [] (· = [.pure (.b true)])) S := by
    intro S s0
    unfold sc_law01_NatBack
    simp only [SC.snd]
    refine WS_seq (WS_seq (WS_reg [] ?_))
    simp [s0, U]
    by_cases h : (150 : Int) < (a.length : Int)
    · refine WS_cond (t := true) (by simp; omega) (fun _ => ?_) (fun h => by cases h)
      refine WS_seq (WS_reg [] ?_)
      simp
      refine callK text_nil ?_
      simp [abin_seql]
      refine WS_ret ?_
      simp
    · refine WS_cond (t := false) (by simp; omega) (fun h => by cases h) (fun _ => WS_skip ?_)
      simp
      have t1 := ntext_spec a ha (by omega)
      have hN := Nm.val_lt ha
      have hl := Nm.decT_length hN
      have p2 := nparse_spec ⟨(Nm.decT (Nm.val 18446744073709551616 a)).toArray⟩ (by
        have : (⟨(Nm.decT (Nm.val 18446744073709551616 a)).toArray⟩ : ByteArray).size = (Nm.decT (Nm.val 18446744073709551616 a)).length := by simp [ByteArray.size]
        rw [this]; omega)
      simp only at p2
      rw [Nm.parse_decT (by omega)] at p2
      have nn := nnorm_spec a (by omega)
      rw [← Nm.dig_val (by omega) ha] at nn
      have sm := same_spec (Nm.dig 18446744073709551616 (Nm.val 18446744073709551616 a)) (by have := Nm.dig_length_le (B := 18446744073709551616) (by omega) hN; omega)
      refine WS_seq (WS_reg [] ?_)
      simp [s0]
      refine callK t1 ?_
      simp
      refine callK p2 ?_
      simp [parseR]
      refine WS_seq (WS_reg [] ?_)
      simp
      refine callK text_nil ?_
      simp [abin_seql, s0]
      refine callK nn ?_
      simp
      refine callK sm ?_
      simp
      refine WS_ret ?_
      simp
  unfold sc_law01_NatBack at rest
  simp only [SC.snd] at rest
  refine WS_seq (WS_reg [] ?_)
  simp
  refine WS_seq (WS_reg [] ?_)
  simp
  refine callK p1 ?_
  cases h : parseV s.data.toList with
  | none =>
    simp [parseR]
    refine WS_seq (WS_seq (WS_reg [] ?_))
    simp
    refine WS_cond (t := false) (by simp) (fun h => by cases h) (fun _ => WS_skip ?_)
    exact rest _ (by simp)
  | some v =>
    have hlt := parse_val_lt h
    have hl4 := parseV_len h
    have hlv := Nm.dig_length_le (B := 18446744073709551616) (by omega) hlt
    have tx := ntext_spec (Nm.dig 18446744073709551616 v) (Nm.dig_lt (by omega) _) (by omega)
    rw [Nm.val_dig (by omega), Nm.decT_parse h, bytes_mk] at tx
    simp [parseR]
    refine WS_seq (WS_seq (WS_reg [] ?_))
    simp
    refine callK tx ?_
    simp [abin_sneq]
    refine WS_cond (t := false) (by simp) (fun h => by cases h) (fun _ => WS_skip ?_)
    exact rest _ (by simp)
end Go.Vw
