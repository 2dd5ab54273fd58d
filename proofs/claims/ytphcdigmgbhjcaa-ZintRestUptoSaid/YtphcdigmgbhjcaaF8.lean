/- Functions of cleaverref01: differences of digits, products. -/
import Derived.Test.YtphcdigmgbhjcaaF7
import Derived.Test.YtphcdigmgbhjcaaNA
set_option linter.unusedVariables false
set_option linter.unusedSimpArgs false
namespace Go.Vw
open Go.Proofs

attribute [local simp] RunL_cons RunL_nil AOp_none AOp_some acK_v acK_call agK_tt agK_ff agK_tf agK_ft agK_tup agK_i aop aun St.ev St.heap St.put thenQ blockQ upd_apply S0 argSlot lowV V.cells V.isAgg V.fits V.part partOk plains St.ret retSV svOf svsOf retQ retP retAll retOne uL_length uL_get? uL_get St.elems retH ownIdx ownAt
attribute [local simp] RunD_none RunD_some RunD_nil RunE_any acD_v acD_call agD_tt agD_ff agD_tf agD_ft agD_tup entsOf svref SO.opds SO.writes SO.makes callEnt pureSV pureOf RV.isOwn
attribute [local simp] abin_add abin_sub abin_mul abin_quo abin_rem abin_eql abin_neq abin_lss abin_leq abin_gtr abin_geq
attribute [local simp] uL_snoc uL_set uL_take uL_drop uL_append uL_replicate uL_nil
attribute [local simp] acK_callG acD_callG St.giv gsSV gvSV retEnts ownEnts SO.still
attribute [local simp] S0G argSlotG givSV retQG retPG retAllG retOneG HObj.width V.scalar trimQ V.byte
theorem rless_spec (x y : List Nat) (d1 : Nm.Dl 4294967296 x) (d2 : Nm.Dl 4294967296 y) (lx : x.length ≤ 2 ^ 42) (ly : y.length ≤ x.length) (hle : Nm.val 4294967296 y ≤ Nm.val 4294967296 x) :
    Spec Try.prog f_ref01_less [U x, U y] (· = [.pure (U (Nm.dig 4294967296 (Nm.val 4294967296 x - Nm.val 4294967296 y)))]) := by
  refine spec_at Try.func137 ok_ref01_less [] rfl (by simp) ?_
  unfold sc_ref01_less
  obtain ⟨n, hn⟩ : ∃ n, n = x.length := ⟨_, rfl⟩
  obtain ⟨F, hF⟩ : ∃ F, F = Nm.subF 4294967296 x y := ⟨_, rfl⟩
  have hr := (Nm.crun_sub (B := 4294967296) (by omega) d1 d2 (n := n) (by omega) (by omega)).1 hle
  rw [← hF] at hr
  have hc1 : ∀ k, (Nm.crun F k).2 ≤ 1 := fun k => hF ▸ Nm.crun_inv (n := k) (I := (· ≤ 1)) (by omega) (fun k c _ hc => Nm.sub_carry _ x y k c) k (Nat.le_refl _)
  refine WS_seq (WS_reg [] ?_)
  simp [U]
  refine WS_seq (WS_reg [5] ?_)
  simp
  refine WS_seq (WS_reg [] ?_)
  simp
  refine WS_seq (WS_seq (WS_reg [] ?_))
  simp [U]
  refine WS_block (WS_loop (fun S => ∃ i g : Nat, i ≤ n ∧ S.σ 0 = .p (.sl none (uL x)) ∧ S.σ 1 = .p (.sl none (uL y)) ∧ S.σ 7 = .p (.i .i64 (i : Int)) ∧ S.σ 6 = .p (.i .u64 ((Nm.crun F i).2 : Nat)) ∧ S.σ 5 = .own 5 g 0 i ∧
      S.h 5 = ⟨g, some (.arr 30 none (uL (Nm.crun F i).1))⟩) (fun S => match S.σ 7 with | .p (.i _ k) => n - k.toNat | _ => 0) ⟨0, 1, by omega, by simp, by simp, by simp, by simp [Nm.crun], by simp, by simp [Nm.crun]⟩ ?_)
  rintro S ⟨i, g, hi, h0, h1, h7, h6, h5, hh⟩
  refine WS_seq (WS_seq (WS_reg [] ?_))
  simp [h0, h7, ← hn]
  by_cases hlt : i < n
  · refine WS_cond (t := true) (by simp; omega) (fun _ => ?_) (fun h => by cases h)
    refine WS_skip ?_
    simp
    refine WS_seq (WS_block (WS_seq (WS_reg [] ?_)))
    simp [h0, h7]
    refine callK (rat_spec x i (by omega)) ?_
    have g1 := d1.get (by omega) i
    have g2 := d2.get (by omega) i
    have hci := hc1 i
    have hlast : Nm.crun F (i + 1) = ((Nm.crun F i).1 ++ [(x.getD i 0 + 4294967296 - y.getD i 0 - (Nm.crun F i).2) % 4294967296], if x.getD i 0 < y.getD i 0 + (Nm.crun F i).2 then 1 else 0) := by
      rw [Nm.crun, hF]; rfl
    have hlen := Nm.crun_length F i
    obtain ⟨c, hcd⟩ : ∃ c, c = (Nm.crun F i).2 := ⟨_, rfl⟩
    obtain ⟨L, hLd⟩ : ∃ L, L = (Nm.crun F i).1 := ⟨_, rfl⟩
    rw [← hcd] at hci h6 hlast
    rw [← hLd] at hlast hlen hh
    obtain ⟨p, hpd⟩ : ∃ p, p = x[i]?.getD 0 := ⟨_, rfl⟩
    obtain ⟨q, hqd⟩ : ∃ q, q = y[i]?.getD 0 := ⟨_, rfl⟩
    rw [List.getD, ← hpd] at g1 hlast
    rw [List.getD, ← hqd] at g2 hlast
    have e1 := u64_addf p 4294967296 (by omega)
    obtain ⟨r, hrd⟩ : ∃ r, r = p + 4294967296 := ⟨_, rfl⟩
    rw [← hrd] at e1 hlast
    have e1' : IntKind.u64.wrap ((p : Int) + 4294967296) = (r : Int) := e1
    have e2 := u64_sub r q (by omega) (by omega)
    obtain ⟨s, hsd⟩ : ∃ s, s = r - q := ⟨_, rfl⟩
    rw [← hsd] at e2 hlast
    have e3 := u64_sub s c (by omega) (by omega)
    obtain ⟨t, htd⟩ : ∃ t, t = s - c := ⟨_, rfl⟩
    rw [← htd] at e3 hlast
    have e4 := abin_mask32 t (by omega)
    have e5 := abin_shr (k := .u64) t 32 32 rfl (by omega)
    obtain ⟨tl, htl⟩ : ∃ z, z = t % 4294967296 := ⟨_, rfl⟩
    obtain ⟨th, hth⟩ : ∃ z, z = t / 2 ^ 32 := ⟨_, rfl⟩
    rw [← htl] at e4 hlast
    rw [← hth] at e5
    have e6 := u64_sub 1 th (by omega) (by omega)
    have e6' : IntKind.u64.wrap (1 - (th : Int)) = ((1 - th : Nat) : Int) := e6
    have hb : (if p < q + c then 1 else 0) = 1 - th := by split <;> omega
    rw [hb] at hlast
    obtain ⟨b, hbd⟩ : ∃ b, b = 1 - th := ⟨_, rfl⟩
    rw [← hbd] at e6' hlast
    simp [← hpd, e1', h1, h7]
    refine callK (rat_spec y i (by omega)) ?_
    simp [← hqd, e2, h6, e3]
    refine WS_seq (WS_reg [] ?_)
    simp [h5, hh, e4, hlen, take_all' hlen]
    refine ⟨by omega, ?_⟩
    refine WS_reg [] ?_
    simp [e5, e6']
    have hw := i64_succ i (by omega)
    refine WS_reg [] ?_
    simp [h0, h1, h7, hw]
    refine ⟨⟨i + 1, by omega, rfl, by simp [hlast], _, ⟨rfl, rfl⟩, rfl, by simp [hlast]⟩, by omega⟩
  · have hi' : i = n := by omega
    subst hi'
    refine WS_cond (t := false) (by simp) (fun h => by cases h) (fun _ => ?_)
    refine WS_exit ?_
    simp
    have hlen := Nm.crun_length F i
    refine WS_frz 5 5 none ?_
    simp [frzQ, h5, hh, hlen, take_all' hlen]
    refine WS_seq (WS_reg [] ?_)
    simp
    refine callK (rcut_spec (Nm.crun F i).1 (by omega)) ?_
    simp
    refine WS_ret ?_
    have hfit : Nm.val 4294967296 x - Nm.val 4294967296 y < 4294967296 ^ i := by
      have := Nm.val_lt d1
      rw [← hn] at this
      omega
    simp [U, hr, Nm.trim_pad (show 2 ≤ 4294967296 by omega) hfit]

theorem rsub_spec (a b : List Nat) (ha : Nm.Dl 18446744073709551616 a) (hb : Nm.Dl 18446744073709551616 b) (la : a.length ≤ 2 ^ 38) (lb : b.length ≤ 2 ^ 38) :
    Spec Try.prog f_ref01_Sub [U a, U b] (· = if Nm.val 18446744073709551616 b ≤ Nm.val 18446744073709551616 a then [.pure (U (Nm.dig 18446744073709551616 (Nm.val 18446744073709551616 a - Nm.val 18446744073709551616 b))), .pure (.i .i64 0)] else [.pure (U []), .pure (.i .i64 1)]) := by
  refine spec_at Try.func41 ok_ref01_Sub [] rfl (by simp) ?_
  unfold sc_ref01_Sub
  have l1 := dig32_len (Nm.val_lt ha)
  have l2 := dig32_len (Nm.val_lt hb)
  have d1 := Nm.dig_lt (B := 4294967296) (by omega) (Nm.val 18446744073709551616 a)
  have d2 := Nm.dig_lt (B := 4294967296) (by omega) (Nm.val 18446744073709551616 b)
  have v1 := Nm.val_dig (B := 4294967296) (by omega) (Nm.val 18446744073709551616 a)
  have v2 := Nm.val_dig (B := 4294967296) (by omega) (Nm.val 18446744073709551616 b)
  have hmono : Nm.val 18446744073709551616 b ≤ Nm.val 18446744073709551616 a → _ := Nm.dig_length_mono (B := 4294967296) (by omega)
  refine WS_seq (WS_reg [] ?_)
  simp
  refine WS_seq (WS_reg [] ?_)
  simp
  refine callK (rdigits_spec a ha (by omega)) ?_
  simp
  refine WS_seq (WS_reg [] ?_)
  simp
  refine callK (rdigits_spec b hb (by omega)) ?_
  simp
  refine WS_seq (WS_seq (WS_reg [] ?_))
  simp
  refine callK (rcompare_spec _ _ d1 d2 (by omega) (by omega)) ?_
  by_cases h : Nm.val 18446744073709551616 b ≤ Nm.val 18446744073709551616 a
  · have hcmp : ¬ Nm.cmpN (Nm.val 18446744073709551616 a) (Nm.val 18446744073709551616 b) < 0 := by
      unfold Nm.cmpN; rw [if_neg (by omega)]; split <;> omega
    have hl := hmono h
    simp [v1, v2, h, hcmp]
    refine WS_cond (t := false) (by simp) (fun h => by cases h) (fun _ => ?_)
    refine WS_skip ?_
    simp
    refine WS_seq (WS_reg [] ?_)
    simp
    refine callK (rless_spec _ _ d1 d2 (by omega) hl (by rw [v1, v2]; exact h)) ?_
    rw [v1, v2]
    simp
    have l3 := dig32_len (n := Nm.val 18446744073709551616 a - Nm.val 18446744073709551616 b) (k := a.length) (by have := Nm.val_lt ha; omega)
    refine callK (rlimbs_spec _ (Nm.dig_lt (by omega) _) (by omega)) ?_
    simp
    refine WS_ret ?_
    simp [U, Nm.val_dig]
  · have hcmp : Nm.cmpN (Nm.val 18446744073709551616 a) (Nm.val 18446744073709551616 b) = -1 := by
      unfold Nm.cmpN; rw [if_pos (by omega)]
    simp [v1, v2, h, hcmp]
    refine WS_cond (t := true) (by simp) (fun _ => ?_) (fun h => by cases h)
    refine WS_seq (WS_reg [] ?_)
    simp
    refine WS_ret ?_
    simp [U]
end Go.Vw
