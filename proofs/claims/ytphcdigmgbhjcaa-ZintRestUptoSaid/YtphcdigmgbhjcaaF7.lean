/- Functions of cleaverref01: sums and differences. -/
import Derived.Test.YtphcdigmgbhjcaaF6
set_option linter.unusedVariables false
set_option linter.unusedSimpArgs false
namespace Go.Vw
open Go.Proofs

attribute [local simp] RunL_cons RunL_nil AOp_none AOp_some acK_v acK_call agK_tt agK_ff agK_tf agK_ft agK_tup agK_i aop aun St.ev St.heap St.put thenQ blockQ upd_apply S0 argSlot lowV V.cells V.isAgg V.fits V.part partOk plains St.ret retSV svOf svsOf retQ retP retAll retOne uL_length uL_get? uL_get St.elems retH ownIdx ownAt
attribute [local simp] RunD_none RunD_some RunD_nil RunE_any acD_v acD_call agD_tt agD_ff agD_tf agD_ft agD_tup entsOf svref SO.opds SO.writes SO.makes callEnt pureSV pureOf RV.isOwn
attribute [local simp] abin_add abin_sub abin_mul abin_quo abin_rem abin_eql abin_neq abin_lss abin_leq abin_gtr abin_geq
attribute [local simp] uL_snoc uL_set uL_take uL_drop uL_append uL_replicate uL_nil
attribute [local simp] acK_callG acD_callG St.giv gsSV gvSV retEnts ownEnts SO.still
attribute [local simp] S0G argSlotG givSV retQG retPG retAllG retOneG HObj.width V.scalar trimQ V.byte
theorem dig32_len {n : Nat} {k : Nat} (h : n < 18446744073709551616 ^ k) : (Nm.dig 4294967296 n).length ≤ 2 * k := by
  refine Nm.dig_length_le (by omega) ?_
  rw [Nat.pow_mul]
  exact h

theorem rcmp_spec (a b : List Nat) (ha : Nm.Dl 18446744073709551616 a) (hb : Nm.Dl 18446744073709551616 b) (la : a.length ≤ 2 ^ 40) (lb : b.length ≤ 2 ^ 40) :
    Spec Try.prog f_ref01_Cmp [U a, U b] (· = [.pure (.i .i64 (Nm.cmpN (Nm.val 18446744073709551616 a) (Nm.val 18446744073709551616 b)))]) := by
  refine spec_at Try.func45 ok_ref01_Cmp [] rfl (by simp) ?_
  unfold sc_ref01_Cmp
  have l1 := dig32_len (Nm.val_lt ha)
  have l2 := dig32_len (Nm.val_lt hb)
  refine WS_seq (WS_reg [] ?_)
  simp
  refine WS_seq (WS_reg [] ?_)
  simp
  refine callK (rdigits_spec a ha la) ?_
  simp
  refine callK (rdigits_spec b hb lb) ?_
  simp
  refine callK (rcompare_spec _ _ (Nm.dig_lt (by omega) _) (Nm.dig_lt (by omega) _) (by omega) (by omega)) ?_
  simp
  refine WS_ret ?_
  simp [Nm.val_dig]

theorem radd_spec (a b : List Nat) (ha : Nm.Dl 18446744073709551616 a) (hb : Nm.Dl 18446744073709551616 b) (la : a.length ≤ 2 ^ 38) (lb : b.length ≤ 2 ^ 38) :
    Spec Try.prog f_ref01_Add [U a, U b] (· = [.pure (U (Nm.dig 18446744073709551616 (Nm.val 18446744073709551616 a + Nm.val 18446744073709551616 b)))]) := by
  refine spec_at Try.func43 ok_ref01_Add [] rfl (by simp) ?_
  unfold sc_ref01_Add
  have l1 := dig32_len (Nm.val_lt ha)
  have l2 := dig32_len (Nm.val_lt hb)
  have d1 := Nm.dig_lt (B := 4294967296) (by omega) (Nm.val 18446744073709551616 a)
  have d2 := Nm.dig_lt (B := 4294967296) (by omega) (Nm.val 18446744073709551616 b)
  have v1 := Nm.val_dig (B := 4294967296) (by omega) (Nm.val 18446744073709551616 a)
  have v2 := Nm.val_dig (B := 4294967296) (by omega) (Nm.val 18446744073709551616 b)
  obtain ⟨x, hx⟩ : ∃ x, x = Nm.dig 4294967296 (Nm.val 18446744073709551616 a) := ⟨_, rfl⟩
  obtain ⟨y, hy⟩ : ∃ y, y = Nm.dig 4294967296 (Nm.val 18446744073709551616 b) := ⟨_, rfl⟩
  rw [← hx] at l1 d1 v1
  rw [← hy] at l2 d2 v2
  have s1 := rdigits_spec a ha (by omega)
  have s2 := rdigits_spec b hb (by omega)
  rw [← hx] at s1
  rw [← hy] at s2
  rw [← v1, ← v2]
  obtain ⟨n, hn⟩ : ∃ n, n = max x.length y.length := ⟨_, rfl⟩
  have hn1 : x.length ≤ n := by omega
  have hn2 : y.length ≤ n := by omega
  have hn3 : n ≤ 2 ^ 39 := by omega
  obtain ⟨F, hF⟩ : ∃ F, F = Nm.addF 4294967296 x y := ⟨_, rfl⟩
  obtain ⟨hr, hc⟩ := Nm.crun_add (B := 4294967296) (by omega) d1 d2 (n := n + 1) (by omega) (by omega)
  rw [← hF] at hr
  have hc1 : ∀ k, (Nm.crun F k).2 ≤ 1 := fun k => hF ▸ Nm.crun_inv (n := k) (I := (· ≤ 1)) (by omega) (fun k c _ hc => Nm.add_carry _ x y k c (by omega) d1 d2 hc) k (Nat.le_refl _)
  have w0 := i64_succ n (by omega)
  refine WS_seq (WS_reg [] ?_)
  simp [U]
  refine WS_seq (WS_reg [] ?_)
  simp
  refine callK (s1) ?_
  simp
  refine WS_seq (WS_reg [] ?_)
  simp
  refine callK (s2) ?_
  simp
  refine WS_seq (WS_reg [7] ?_)
  simp
  refine WS_seq (WS_reg [] ?_)
  simp
  refine WS_seq (WS_seq (WS_reg [] ?_))
  simp [U]
  refine WS_block (WS_loop (fun S => ∃ i g : Nat, i ≤ n + 1 ∧ S.σ 5 = .p (.sl none (uL x)) ∧ S.σ 6 = .p (.sl none (uL y)) ∧ S.σ 9 = .p (.i .i64 (i : Int)) ∧ S.σ 8 = .p (.i .u64 ((Nm.crun F i).2 : Nat)) ∧ S.σ 7 = .own 7 g 0 i ∧
      S.h 7 = ⟨g, some (.arr 30 none (uL (Nm.crun F i).1))⟩) (fun S => match S.σ 9 with | .p (.i _ k) => n + 1 - k.toNat | _ => 0) ⟨0, 1, by omega, by simp, by simp, by simp, by simp [Nm.crun], by simp, by simp [Nm.crun]⟩ ?_)
  rintro S ⟨i, g, hi, h5, h6, h9, h8, h7, hh⟩
  refine WS_seq (WS_seq (WS_reg [] ?_))
  simp [h5, h6, h9, max_len, ← hn, w0]
  by_cases hlt : i < n + 1
  · refine WS_cond (t := true) (by simp; omega) (fun _ => ?_) (fun h => by cases h)
    refine WS_skip ?_
    simp
    refine WS_seq (WS_block (WS_seq (WS_reg [] ?_)))
    simp [h5, h9]
    refine callK (rat_spec x i (by omega)) ?_
    simp [h6, h9]
    refine callK (rat_spec y i (by omega)) ?_
    have g1 := d1.get (by omega) i
    have g2 := d2.get (by omega) i
    have hci := hc1 i
    have hFi : F i (Nm.crun F i).2 = ((x.getD i 0 + y.getD i 0 + (Nm.crun F i).2) % 4294967296, (x.getD i 0 + y.getD i 0 + (Nm.crun F i).2) / 4294967296) := by rw [hF]; rfl
    have hlast : Nm.crun F (i + 1) = ((Nm.crun F i).1 ++ [(x.getD i 0 + y.getD i 0 + (Nm.crun F i).2) % 4294967296], (x.getD i 0 + y.getD i 0 + (Nm.crun F i).2) / 4294967296) := by
      rw [Nm.crun, hFi]
    have hlen := Nm.crun_length F i
    obtain ⟨c, hcd⟩ : ∃ c, c = (Nm.crun F i).2 := ⟨_, rfl⟩
    obtain ⟨L, hLd⟩ : ∃ L, L = (Nm.crun F i).1 := ⟨_, rfl⟩
    rw [← hcd] at hci h8 hlast
    rw [← hLd] at hlast hlen hh
    obtain ⟨p, hpd⟩ : ∃ p, p = x[i]?.getD 0 := ⟨_, rfl⟩
    obtain ⟨q, hqd⟩ : ∃ q, q = y[i]?.getD 0 := ⟨_, rfl⟩
    rw [List.getD, ← hpd] at g1 hlast
    rw [List.getD, ← hqd] at g2 hlast
    have e1 := u64_addf p q (by omega)
    obtain ⟨r, hrd⟩ : ∃ r, r = p + q := ⟨_, rfl⟩
    rw [← hrd] at e1 hlast
    have e2 := u64_addf r c (by omega)
    obtain ⟨t, htd⟩ : ∃ t, t = r + c := ⟨_, rfl⟩
    rw [← htd] at e2 hlast
    have e3 := abin_mask32 t (by omega)
    have e4 := abin_shr (k := .u64) t 32 32 rfl (by omega)
    obtain ⟨tl, htl⟩ : ∃ z, z = t % 4294967296 := ⟨_, rfl⟩
    obtain ⟨th, hth⟩ : ∃ z, z = t / 2 ^ 32 := ⟨_, rfl⟩
    have hth' : th = t / 4294967296 := hth
    rw [← htl] at e3 hlast
    rw [← hth] at e4
    rw [← hth'] at hlast
    simp [← hpd, ← hqd, e1, h8, e2]
    refine WS_seq (WS_reg [] ?_)
    simp [h7, hh, e3, hlen, take_all' hlen]
    refine ⟨by omega, ?_⟩
    refine WS_reg [] ?_
    simp [e4]
    have hw := i64_succ i (by omega)
    refine WS_reg [] ?_
    simp [h5, h6, h9, hw]
    refine ⟨⟨i + 1, by omega, rfl, by simp [hlast], _, ⟨rfl, rfl⟩, rfl, by simp [hlast]⟩, by omega⟩
  · have hi' : i = n + 1 := by omega
    subst hi'
    refine WS_cond (t := false) (by simp) (fun h => by cases h) (fun _ => ?_)
    refine WS_exit ?_
    simp
    have hlen := Nm.crun_length F (n + 1)
    refine WS_frz 7 7 none ?_
    simp [frzQ, h7, hh, hlen, take_all' hlen]
    refine WS_seq (WS_reg [] ?_)
    simp
    have hdl : Nm.Dl 4294967296 (Nm.crun F (n + 1)).1 := by rw [hr]; exact Nm.pad_lt (by omega) _ _
    refine callK (rlimbs_spec (Nm.crun F (n + 1)).1 hdl (by omega)) ?_
    simp
    refine WS_ret ?_
    have hv1 := Nm.val_lt d1
    have hv2 := Nm.val_lt d2
    have p1 : 4294967296 ^ x.length ≤ 4294967296 ^ n := Nat.pow_le_pow_right (by omega) hn1
    have p2 : 4294967296 ^ y.length ≤ 4294967296 ^ n := Nat.pow_le_pow_right (by omega) hn2
    have hfit : Nm.val 4294967296 x + Nm.val 4294967296 y < 4294967296 ^ (n + 1) := by rw [Nat.pow_succ]; omega
    simp [U, hr, Nm.val_pad, Nat.mod_eq_of_lt hfit]
end Go.Vw
