/- Functions of cleaverref01: products. -/
import Derived.Test.YtphcdigmgbhjcaaF8
set_option linter.unusedVariables false
set_option linter.unusedSimpArgs false
namespace Go.Vw
open Go.Proofs

attribute [local simp] RunL_cons RunL_nil AOp_none AOp_some acK_v acK_call agK_tt agK_ff agK_tf agK_ft agK_tup agK_i aop aun St.ev St.heap St.put thenQ blockQ upd_apply S0 argSlot lowV V.cells V.isAgg V.fits V.part partOk plains St.ret retSV svOf svsOf retQ retP retAll retOne uL_length uL_get? uL_get St.elems retH ownIdx ownAt
attribute [local simp] RunD_none RunD_some RunD_nil RunE_any acD_v acD_call agD_tt agD_ff agD_tf agD_ft agD_tup entsOf svref SO.opds SO.writes SO.makes callEnt pureSV pureOf RV.isOwn
attribute [local simp] abin_add abin_sub abin_mul abin_quo abin_rem abin_eql abin_neq abin_lss abin_leq abin_gtr abin_geq
attribute [local simp] uL_snoc uL_set uL_take uL_drop uL_append uL_replicate uL_nil
attribute [local simp] acK_callG acD_callG St.giv gsSV gvSV retEnts ownEnts SO.still
attribute [local simp] S0G argSlotG givSV retQG retPG retAllG retOneG HObj.width V.scalar trimQ V.byte
theorem rmul_spec (a b : List Nat) (ha : Nm.Dl 18446744073709551616 a) (hb : Nm.Dl 18446744073709551616 b) (la : a.length ≤ 2 ^ 36) (lb : b.length ≤ 2 ^ 36) :
    Spec Try.prog f_ref01_Mul [U a, U b] (· = [.pure (U (Nm.dig 18446744073709551616 (Nm.val 18446744073709551616 a * Nm.val 18446744073709551616 b)))]) := by
  refine spec_at Try.func39 ok_ref01_Mul [] rfl (by simp) ?_
  unfold sc_ref01_Mul
  have l1 := dig32_len (Nm.val_lt ha)
  have l2 := dig32_len (Nm.val_lt hb)
  have d1 := Nm.dig_lt (B := 4294967296) (by omega) (Nm.val 18446744073709551616 a)
  have d2 := Nm.dig_lt (B := 4294967296) (by omega) (Nm.val 18446744073709551616 b)
  have v1 := Nm.val_dig (B := 4294967296) (by omega) (Nm.val 18446744073709551616 a)
  have v2 := Nm.val_dig (B := 4294967296) (by omega) (Nm.val 18446744073709551616 b)
  obtain ⟨x, hx⟩ : ∃ x, x = Nm.dig 4294967296 (Nm.val 18446744073709551616 a) := ⟨_, rfl⟩
  obtain ⟨y, hy⟩ : ∃ y, y = Nm.dig 4294967296 (Nm.val 18446744073709551616 b) := ⟨_, rfl⟩
  have s1 := rdigits_spec a ha (by omega)
  have s2 := rdigits_spec b hb (by omega)
  rw [← hx] at l1 d1 v1 s1
  rw [← hy] at l2 d2 v2 s2
  rw [← v1, ← v2]
  clear hx hy
  obtain ⟨n, hn⟩ : ∃ n, n = x.length := ⟨_, rfl⟩
  obtain ⟨m, hm⟩ : ∃ m, m = y.length := ⟨_, rfl⟩
  have hnm : n + m ≤ 2 ^ 40 := by omega
  have w0 := i64_addn n m (by omega)
  refine WS_seq (WS_reg [] ?_)
  simp [U]
  refine WS_seq (WS_reg [] ?_)
  simp
  refine callK s1 ?_
  simp
  refine WS_seq (WS_reg [] ?_)
  simp
  refine callK s2 ?_
  simp
  refine WS_seq (WS_reg [] ?_)
  simp [U, ← hn, ← hm, w0]
  refine ⟨by omega, ?_⟩
  refine WS_seq (WS_seq (WS_reg [] ?_))
  simp
  have htn : ((n : Int) + m).toNat = n + m := by omega
  refine WS_block (WS_loop (fun S => ∃ (i : Nat) (out : List Nat), i ≤ n ∧ S.σ 5 = .p (.sl none (uL x)) ∧ S.σ 6 = .p (.sl none (uL y)) ∧ S.σ 7 = .own 21 1 0 (n + m) ∧ S.σ 8 = .p (.i .i64 (i : Int)) ∧
      S.h 21 = ⟨1, some (.arr 30 none (uL out))⟩ ∧ out.length = n + m ∧ Nm.Dl 4294967296 out ∧ Nm.zeroFrom out (i + m) ∧ Nm.val 4294967296 out = Nm.val 4294967296 (x.take i) * Nm.val 4294967296 y)
      (fun S => match S.σ 8 with | .p (.i _ k) => n - k.toNat | _ => 0) ⟨0, List.replicate (n + m) 0, by omega, by simp, by simp, by simp [htn], by simp, by simp [htn], by simp, Nm.Dl.replicate (by omega) _, fun j _ => by simp [List.getD, List.getElem?_replicate]; split <;> simp, by simp [Nm.val_replicate, Nm.val]⟩ ?_)
  rintro S ⟨i, out, hi, h5, h6, h7, h8, hh, ho1, ho2, ho3, ho4⟩
  refine WS_seq (WS_seq (WS_reg [] ?_))
  simp [h5, h8, ← hn]
  by_cases hlt : i < n
  · refine WS_cond (t := true) (by simp; omega) (fun _ => ?_) (fun h => by cases h)
    refine WS_skip ?_
    simp
    refine WS_seq (WS_block (WS_seq (WS_reg [] ?_)))
    simp
    refine WS_seq (WS_seq (WS_reg [] ?_))
    simp
    obtain ⟨V0, hV0⟩ : ∃ V0, V0 = Nm.val 4294967296 (x.take i) * Nm.val 4294967296 y := ⟨_, rfl⟩
    have hxi := d1.get (by omega) i
    have hall := Nm.row_all (B := 4294967296) (x := x) (i := i) (Y := Nm.val 4294967296 y)
    obtain ⟨xi, hxid⟩ : ∃ xi, xi = x.getD i 0 := ⟨_, rfl⟩
    rw [← hxid] at hxi hall
    rw [← hV0] at ho4 hall
    have hxi' : x[i] = xi := by rw [hxid]; simp [List.getD, show i < x.length by omega]
    refine WS_block (WS_loop (fun S => ∃ (k c : Nat) (out : List Nat), k ≤ m ∧ S.σ 5 = .p (.sl none (uL x)) ∧ S.σ 6 = .p (.sl none (uL y)) ∧ S.σ 7 = .own 21 1 0 (n + m) ∧ S.σ 8 = .p (.i .i64 (i : Int)) ∧ S.σ 9 = .p (.i .u64 (c : Int)) ∧ S.σ 10 = .p (.i .i64 (k : Int)) ∧
      S.h 21 = ⟨1, some (.arr 30 none (uL out))⟩ ∧ out.length = n + m ∧ Nm.Dl 4294967296 out ∧ Nm.zeroFrom out (i + m) ∧ c < 4294967296 ∧ Nm.val 4294967296 out + 4294967296 ^ (i + k) * c = V0 + 4294967296 ^ i * (xi * Nm.val 4294967296 (y.take k)))
      (fun S => match S.σ 10 with | .p (.i _ k) => m - k.toNat | _ => 0) ⟨0, 0, out, by omega, by simp [h5], by simp [h6], by simp [h7], by simp [h8], by simp, by simp, by simp [hh], ho1, ho2, ho3, by omega, by simp [ho4, Nm.val]⟩ ?_)
    rintro S ⟨k, c, out, hk, h5, h6, h7, h8, h9, h10, hh, ho1, ho2, ho3, hc, ho4⟩
    refine WS_seq (WS_seq (WS_reg [] ?_))
    simp [h6, h10, ← hm]
    by_cases hlt2 : k < m
    · refine WS_cond (t := true) (by simp; omega) (fun _ => ?_) (fun h => by cases h)
      refine WS_skip ?_
      simp
      have hyk := d2.get (by omega) k
      have hnext := Nm.row_next (B := 4294967296) (V := V0) (P := 0) (i := i) (k := k) (xi := xi) (y := y)
      obtain ⟨yk, hykd⟩ : ∃ yk, yk = y.getD k 0 := ⟨_, rfl⟩
      rw [← hykd] at hyk hnext
      have hyk' : y[k] = yk := by rw [hykd]; simp [List.getD, show k < y.length by omega]
      have hog := ho2.get (by omega) (i + k)
      have hstep := Nm.mul_step (B := 4294967296) (z := xi * yk) (show i + k < out.length by omega) ho4
      rw [← hnext] at hstep
      obtain ⟨o, hod⟩ : ∃ o, o = out.getD (i + k) 0 := ⟨_, rfl⟩
      rw [← hod] at hog hstep
      have hog' : out[i + k] = o := by rw [hod]; simp [List.getD, show i + k < out.length by omega]
      obtain ⟨b1, b2, b3⟩ := Nm.mul_bound hxi hyk hog hc
      have e1 := u64_mulf xi yk b2
      obtain ⟨z, hz⟩ : ∃ z, z = xi * yk := ⟨_, rfl⟩
      rw [← hz] at e1 hstep b1 b2 b3
      have e2 := u64_addf z o b3
      obtain ⟨r, hr⟩ : ∃ r, r = z + o := ⟨_, rfl⟩
      rw [← hr] at e2 hstep b1
      have e3 := u64_addf r c b1
      obtain ⟨t, ht⟩ : ∃ t, t = r + c := ⟨_, rfl⟩
      rw [← ht] at e3 hstep b1
      have e4 := abin_mask32 t b1
      have e5 := abin_shr (k := .u64) t 32 32 rfl (by omega)
      have b4 : t % 4294967296 < 4294967296 := Nat.mod_lt _ (by omega)
      have b5 : t / 4294967296 < 4294967296 := by omega
      obtain ⟨tl, htl⟩ : ∃ z, z = t % 4294967296 := ⟨_, rfl⟩
      obtain ⟨th, hth⟩ : ∃ z, z = t / 2 ^ 32 := ⟨_, rfl⟩
      have hth' : th = t / 4294967296 := hth
      rw [← htl] at e4 hstep b4
      rw [← hth] at e5
      rw [← hth'] at hstep b5
      have w1 := i64_addn i k (by omega)
      have w2 := i64_succ k (by omega)
      have hik : ((i : Int) + k).toNat = i + k := by omega
      have hik' : (i : Int) + k < n + m := by omega
      have hik0 : (0 : Int) ≤ (i : Int) + k := by omega
      have hol : i + k < out.length := by omega
      refine WS_seq (WS_block (WS_seq (WS_regD [] ?_)))
      simp [h5, h6, h7, h8, h9, h10, hh, hlt, hlt2, ← hn, ← hm, w1, hik, hik', hik0, hxi', hyk', e1, hol, hog', e2, e3]
      refine ⟨rfl, ?_⟩
      refine WS_seq (WS_reg [] ?_)
      simp [h7, h8, h10, hh, w1, hik, hik', hik0, e4, hol]
      refine WS_reg [] ?_
      simp [e5]
      refine WS_reg [] ?_
      simp [h5, h6, h7, h8, h9, h10, hh, w2]
      refine ⟨⟨k + 1, by omega, th, rfl, rfl, out.set (i + k) tl, rfl, by simp [ho1], ho2.set b4 _, Nm.zeroFrom_set ho3 (by omega) _, b5, hstep⟩, by omega⟩
    · have hk' : k = m := by omega
      refine WS_cond (t := false) (by simp; omega) (fun h => by cases h) (fun _ => ?_)
      refine WS_exit ?_
      simp
      rw [hk'] at ho4
      have hym : y.take m = y := Nm.take_all (by omega)
      rw [hym, hall] at ho4
      have w1 := i64_addn i m (by omega)
      have w2 := i64_succ i (by omega)
      have him : ((i : Int) + m).toNat = i + m := by omega
      have him' : (i : Int) + m < n + m := by omega
      have him0 : (0 : Int) ≤ (i : Int) + m := by omega
      have hol : i + m < out.length := by omega
      have hsz := Nm.set_zero (B := 4294967296) (c := c) hol (ho3 (i + m) (Nat.le_refl _))
      rw [ho4] at hsz
      refine WS_reg [] ?_
      simp [h6, h7, h8, h9, hh, ← hm, w1, him, him', him0, hol]
      refine WS_reg [] ?_
      simp [h5, h6, h7, h8, hh, w2]
      refine ⟨⟨i + 1, by omega, rfl, out.set (i + m) c, rfl, by simp [ho1], ho2.set hc _, ?_, hsz⟩, by omega⟩
      intro j hj
      rw [Nm.getD_set_ne (by omega)]
      exact ho3 j (by omega)
  · have hi' : i = n := by omega
    refine WS_cond (t := false) (by simp; omega) (fun h => by cases h) (fun _ => ?_)
    refine WS_exit ?_
    simp
    refine WS_frz 21 7 none ?_
    simp [frzQ, h7, hh, ho1, take_all' ho1]
    refine WS_seq (WS_reg [] ?_)
    simp
    refine callK (rlimbs_spec out ho2 (by omega)) ?_
    simp
    refine WS_ret ?_
    rw [hi', Nm.take_all (by omega)] at ho4
    simp [U, ho4]
end Go.Vw
