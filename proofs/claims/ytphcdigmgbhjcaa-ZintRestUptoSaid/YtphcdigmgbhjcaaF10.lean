/- Functions of cleaverref01: quotient and rest, bit by bit. -/
import Derived.Test.YtphcdigmgbhjcaaF9
set_option linter.unusedVariables false
set_option linter.unusedSimpArgs false
namespace Go.Vw
open Go.Proofs

attribute [local simp] RunL_cons RunL_nil AOp_none AOp_some acK_v acK_call agK_tt agK_ff agK_tf agK_ft agK_tup agK_i aop aun St.ev St.heap St.put thenQ blockQ upd_apply S0 argSlot lowV V.cells V.isAgg V.fits V.part partOk plains St.ret retSV svOf svsOf retQ retP retAll retOne uL_length uL_get? uL_get St.elems retH ownIdx ownAt
attribute [local simp] RunD_none RunD_some RunD_nil RunE_any acD_v acD_call agD_tt agD_ff agD_tf agD_ft agD_tup entsOf svref SO.opds SO.writes SO.makes callEnt pureSV pureOf RV.isOwn
attribute [local simp] abin_add abin_sub abin_mul abin_quo abin_rem abin_eql abin_neq abin_lss abin_leq abin_gtr abin_geq
attribute [local simp] uL_snoc uL_set uL_take uL_drop uL_append uL_replicate uL_nil
attribute [local simp] acK_callG acD_callG St.giv gsSV gvSV retEnts ownEnts SO.still
attribute [local simp] S0G argSlotG givSV retQG retPG retAllG retOneG HObj.width V.scalar trimQ V.byte
theorem rdiv_zero (a b : List Nat) (hb : Nm.Dl 18446744073709551616 b) (lb : b.length ≤ 2 ^ 36) (h0 : Nm.val 18446744073709551616 b = 0) :
    Spec Try.prog f_ref01_Div [U a, U b] (· = [.pure (U []), .pure (U []), .pure (.i .i64 3)]) := by
  refine spec_at Try.func55 ok_ref01_Div [] rfl (by simp) ?_
  unfold sc_ref01_Div
  refine WS_seq (WS_reg [] ?_)
  simp
  refine WS_seq (WS_reg [] ?_)
  simp
  refine callK (rdigits_spec b hb (by omega)) ?_
  simp [h0, Nm.dig_zero]
  refine WS_seq (WS_seq (WS_reg [] ?_))
  simp [U]
  refine WS_cond (t := true) (by simp) (fun _ => ?_) (fun h => by cases h)
  refine WS_seq (WS_reg [] ?_)
  simp
  refine WS_ret ?_
  simp

theorem rdiv_spec (a b : List Nat) (ha : Nm.Dl 18446744073709551616 a) (hb : Nm.Dl 18446744073709551616 b) (la : a.length ≤ 2 ^ 34) (lb : b.length ≤ 2 ^ 34) (h0 : Nm.val 18446744073709551616 b ≠ 0) :
    Spec Try.prog f_ref01_Div [U a, U b] (· = [.pure (U (Nm.dig 18446744073709551616 (Nm.val 18446744073709551616 a / Nm.val 18446744073709551616 b))), .pure (U (Nm.dig 18446744073709551616 (Nm.val 18446744073709551616 a % Nm.val 18446744073709551616 b))), .pure (.i .i64 0)]) := by
  refine spec_at Try.func55 ok_ref01_Div [] rfl (by simp) ?_
  unfold sc_ref01_Div
  have l1 := dig32_len (Nm.val_lt ha)
  have l2 := dig32_len (Nm.val_lt hb)
  have d1 := Nm.dig_lt (B := 4294967296) (by omega) (Nm.val 18446744073709551616 a)
  have d2 := Nm.dig_lt (B := 4294967296) (by omega) (Nm.val 18446744073709551616 b)
  have v1 := Nm.val_dig (B := 4294967296) (by omega) (Nm.val 18446744073709551616 a)
  have v2 := Nm.val_dig (B := 4294967296) (by omega) (Nm.val 18446744073709551616 b)
  have hpos := Nm.dig_length_pos (B := 4294967296) (by omega) h0
  have s1 := rdigits_spec a ha (by omega)
  have s2 := rdigits_spec b hb (by omega)
  obtain ⟨N, hN⟩ : ∃ N, N = Nm.val 18446744073709551616 a := ⟨_, rfl⟩
  obtain ⟨Y, hY⟩ : ∃ Y, Y = Nm.val 18446744073709551616 b := ⟨_, rfl⟩
  rw [← hN] at l1 d1 v1 s1 ⊢
  rw [← hY] at l2 d2 v2 s2 h0 hpos ⊢
  obtain ⟨x, hx⟩ : ∃ x, x = Nm.dig 4294967296 N := ⟨_, rfl⟩
  obtain ⟨y, hy⟩ : ∃ y, y = Nm.dig 4294967296 Y := ⟨_, rfl⟩
  rw [← hx] at l1 d1 v1 s1
  rw [← hy] at l2 d2 v2 s2 hpos
  clear hN hY
  have hY0 : 0 < Y := by omega
  obtain ⟨n, hn⟩ : ∃ n, n = x.length := ⟨_, rfl⟩
  have hNlt : N < 2 ^ (32 * n) := by
    have := Nm.val_lt d1
    rw [v1, ← hn, show (4294967296 : Nat) = 2 ^ 32 from rfl, ← Nat.pow_mul] at this
    exact this
  have hYlt : 2 * Y < 4294967296 ^ (y.length + 1) := by
    have := Nm.val_lt d2
    rw [v2] at this
    rw [Nat.pow_succ]; omega
  have w0 : IntKind.i64.wrap (32 * (n : Int)) = 32 * (n : Int) := i64_int _ (by omega) (by omega)
  have w00 : IntKind.i64.wrap (32 * (n : Int) - 1) = 32 * (n : Int) - 1 := i64_int _ (by omega) (by omega)
  refine WS_seq (WS_reg [] ?_)
  simp [U]
  refine WS_seq (WS_reg [] ?_)
  simp
  refine callK s2 ?_
  simp
  refine WS_seq (WS_seq (WS_reg [] ?_))
  simp [U]
  refine WS_cond (t := false) (by simp; intro h; simp [h] at hpos) (fun h => by cases h) (fun _ => ?_)
  refine WS_skip ?_
  simp
  refine WS_seq (WS_reg [] ?_)
  simp
  refine callK s1 ?_
  simp
  refine WS_seq (WS_reg [] ?_)
  simp [U, ← hn]
  refine ⟨by omega, ?_⟩
  refine WS_seq (WS_reg [] ?_)
  simp
  refine WS_seq (WS_seq (WS_reg [] ?_))
  simp [← hn, w0, w00]
  refine WS_block (WS_loop (fun S => ∃ (j : Nat) (q : List Nat), j ≤ 32 * n ∧ S.σ 7 = .p (.sl none (uL y)) ∧ S.σ 8 = .p (.sl none (uL x)) ∧ S.σ 9 = .own 24 1 0 n ∧ S.σ 10 = .p (.sl none (uL (Nm.dig 4294967296 (N / 2 ^ j % Y)))) ∧ S.σ 11 = .p (.i .i64 ((j : Int) - 1)) ∧
      S.h 24 = ⟨1, some (.arr 30 none (uL q))⟩ ∧ q.length = n ∧ Nm.Dl 4294967296 q ∧ Nm.val 4294967296 q = N / 2 ^ j / Y * 2 ^ j)
      (fun S => match S.σ 11 with | .p (.i _ k) => (k + 1).toNat | _ => 0) ⟨32 * n, List.replicate n 0, by omega, by simp, by simp, by simp, by simp [Nat.div_eq_of_lt hNlt, Nm.dig_zero], by simp, by simp, by simp, Nm.Dl.replicate (by omega) _, by simp [Nat.div_eq_of_lt hNlt, Nm.val_replicate]⟩ ?_)
  rintro S ⟨j, q, hj, h7, h8, h9, h10, h11, hh, hq1, hq2, hq3⟩
  refine WS_seq (WS_seq (WS_reg [] ?_))
  simp [h11]
  by_cases hp : 0 < j
  · obtain ⟨i, rfl⟩ : ∃ i, j = i + 1 := ⟨j - 1, by omega⟩
    have hi1 : ((i + 1 : Nat) : Int) - 1 = (i : Int) := by omega
    rw [hi1] at h11
    have hxlen : i / 32 < x.length := by omega
    have hqlen : i / 32 < q.length := by omega
    have hbit := Nm.bit_val d1 i
    have hxg := d1.get (by omega) (i / 32)
    have hor := Nm.or_bit hq2 hqlen hq3
    have hqg := hq2.get (by omega) (i / 32)
    have hM := Nm.half_step N i
    rw [v1] at hbit
    have hdiv : (i : Int).tdiv 32 = ((i / 32 : Nat) : Int) := tdiv_nat i 32
    have hmod : (i : Int).tmod 32 = ((i % 32 : Nat) : Int) := tmod_nat i 32
    have hs32 : i % 32 < 32 := Nat.mod_lt _ (by omega)
    have hbit1 : N / 2 ^ i % 2 ≤ 1 := by omega
    obtain ⟨bit, hbitd⟩ : ∃ bit, bit = N / 2 ^ i % 2 := ⟨_, rfl⟩
    obtain ⟨M, hMd⟩ : ∃ M, M = N / 2 ^ (i + 1) := ⟨_, rfl⟩
    rw [← hbitd] at hbit hM hbit1
    rw [← hMd] at hM h10 hq3 hor
    obtain ⟨u, hu⟩ : ∃ u, u = i / 32 := ⟨_, rfl⟩
    obtain ⟨s, hs⟩ : ∃ s, s = i % 32 := ⟨_, rfl⟩
    rw [← hu] at hxlen hqlen hbit hxg hor hqg hdiv
    rw [← hs] at hbit hor hmod hs32
    obtain ⟨hst1, hst2⟩ := Nm.div_step (M := M) hY0 hbit1
    rw [← hM] at hst1 hst2
    have hRlt : M % Y < Y := Nat.mod_lt _ hY0
    obtain ⟨Rv, hRv⟩ : ∃ Rv, Rv = M % Y := ⟨_, rfl⟩
    rw [← hRv] at hst1 hst2 hRlt h10
    have hRlen := Nm.dig_length_le (B := 4294967296) (by omega) (n := Rv) (k := y.length + 1) (by omega)
    have hRd := Nm.dig_lt (B := 4294967296) (by omega) Rv
    have hRval := Nm.val_dig (B := 4294967296) (by omega) Rv
    have hR1len := Nm.dig_length_le (B := 4294967296) (by omega) (n := 2 * Rv + bit) (k := y.length + 1) (by omega)
    obtain ⟨R, hR⟩ : ∃ R, R = Nm.dig 4294967296 Rv := ⟨_, rfl⟩
    rw [← hR] at hRlen hRd hRval h10
    have hxi : x.getD u 0 = x[u] := by simp [List.getD, hxlen]
    rw [hxi] at hbit hxg
    have e1 := abin_shr (k := .i64) x[u] (s : Int) s rfl (by omega)
    have hlt64 : x[u] / 2 ^ s < 18446744073709551616 := Nat.lt_of_le_of_lt (Nat.div_le_self _ _) (by omega)
    have e2 := abin_bit0 (x[u] / 2 ^ s) hlt64
    rw [hbit] at e2
    obtain ⟨xs, hxs⟩ : ∃ z, z = x[u] / 2 ^ s := ⟨_, rfl⟩
    rw [← hxs] at e1 e2
    have wu := i64_nat u (by omega)
    refine WS_cond (t := true) (by simp; omega) (fun _ => ?_) (fun h => by cases h)
    refine WS_skip ?_
    simp
    refine WS_seq (WS_block (WS_seq (WS_reg [12] ?_)))
    simp
    refine WS_seq (WS_reg [] ?_)
    simp [h8, h11, hdiv, hmod, wu, hxlen, e1, e2]
    refine WS_seq (WS_seq (WS_reg [] ?_))
    simp
    refine WS_block (WS_loop (fun S => ∃ (k c g : Nat) (tw : List Nat), k ≤ R.length ∧ S.σ 7 = .p (.sl none (uL y)) ∧ S.σ 8 = .p (.sl none (uL x)) ∧ S.σ 9 = .own 24 1 0 n ∧ S.σ 10 = .p (.sl none (uL R)) ∧ S.σ 11 = .p (.i .i64 (i : Int)) ∧
      S.h 24 = ⟨1, some (.arr 30 none (uL q))⟩ ∧ S.σ 12 = .own 12 g 0 k ∧ S.h 12 = ⟨g, some (.arr 30 none (uL tw))⟩ ∧ S.σ 13 = .p (.i .u64 (c : Int)) ∧ S.σ 14 = .p (.i .i64 (k : Int)) ∧
      tw.length = k ∧ Nm.Dl 4294967296 tw ∧ c ≤ 1 ∧ Nm.val 4294967296 tw + 4294967296 ^ k * c = 2 * Nm.val 4294967296 (R.take k) + bit)
      (fun S => match S.σ 14 with | .p (.i _ k) => R.length - k.toNat | _ => 0) ⟨0, bit, _, [], by omega, by simp [h7], by simp [h8], by simp [h9], by simp [h10], by simp [h11], by simp [hh], by simp; rfl, by simp, by simp, by simp, by simp, Nm.Dl.nil _, hbit1, by simp [Nm.val]⟩ ?_)
    rintro S ⟨k, c, g, tw, hk, h7, h8, h9, h10, h11, hh, h12, hh12, h13, h14, ht1, ht2, hc, ht3⟩
    refine WS_seq (WS_seq (WS_reg [] ?_))
    simp [h10, h14]
    by_cases hlt2 : k < R.length
    · refine WS_cond (t := true) (by simp; omega) (fun _ => ?_) (fun h => by cases h)
      refine WS_skip ?_
      simp
      have hrk := hRd _ (List.getElem_mem hlt2)
      have htk := Nm.val_take_succ 4294967296 R k
      have hrg : R.getD k 0 = R[k] := by simp [List.getD, hlt2]
      rw [hrg] at htk
      obtain ⟨rk, hrkd⟩ : ∃ rk, rk = R[k] := ⟨_, rfl⟩
      rw [← hrkd] at hrk htk
      have f1 := u64_mulf rk 2 (by omega)
      have f1' : IntKind.u64.wrap ((rk : Int) * 2) = ((rk * 2 : Nat) : Int) := f1
      have f2 := u64_addf (rk * 2) c (by omega)
      have f4 := abin_mask32 (rk * 2 + c) (by omega)
      have f5 := abin_shr (k := .u64) rk 31 31 rfl (by omega)
      have hcar : rk / 2 ^ 31 = (rk * 2 + c) / 4294967296 := by omega
      rw [hcar] at f5
      have hval2 : Nm.val 4294967296 (tw ++ [(rk * 2 + c) % 4294967296]) + 4294967296 ^ (k + 1) * ((rk * 2 + c) / 4294967296) = 2 * Nm.val 4294967296 (R.take (k + 1)) + bit := by
        rw [Nm.val_append, ht1, htk]
        have : 4294967296 ^ k * ((rk * 2 + c) % 4294967296) + 4294967296 ^ (k + 1) * ((rk * 2 + c) / 4294967296) = 4294967296 ^ k * (rk * 2) + 4294967296 ^ k * c := by
          rw [Nat.pow_succ, Nat.mul_assoc, ← Nat.mul_add, Nat.mod_add_div, Nat.mul_add]
        simp only [Nm.val, Nat.mul_zero, Nat.add_zero]
        have e : 4294967296 ^ k * (rk * 2) = 2 * (4294967296 ^ k * rk) := by rw [← Nat.mul_assoc, Nat.mul_comm]
        omega
      have hc2 : (rk * 2 + c) / 4294967296 ≤ 1 := by omega
      have hm2 : (rk * 2 + c) % 4294967296 < 4294967296 := Nat.mod_lt _ (by omega)
      obtain ⟨p, hpd⟩ : ∃ p, p = rk * 2 := ⟨_, rfl⟩
      rw [← hpd] at f1' f2 f4 f5 hval2 hc2 hm2
      obtain ⟨t, htd⟩ : ∃ t, t = p + c := ⟨_, rfl⟩
      rw [← htd] at f2 f4 f5 hval2 hc2 hm2
      obtain ⟨tl, htl⟩ : ∃ z, z = t % 4294967296 := ⟨_, rfl⟩
      rw [← htl] at f4 hval2 hm2
      obtain ⟨th, hth⟩ : ∃ z, z = t / 4294967296 := ⟨_, rfl⟩
      rw [← hth] at f5 hval2 hc2
      have w2 := i64_succ k (by omega)
      refine WS_seq (WS_block (WS_seq (WS_reg [] ?_)))
      simp [h10, h12, h13, h14, hh12, hlt2, ← hrkd, f1', f2, f4, ht1, take_all' ht1]
      refine ⟨by omega, ?_⟩
      refine WS_reg [] ?_
      simp [h10, h14, hlt2, ← hrkd, f5]
      refine WS_reg [] ?_
      simp [h7, h8, h9, h10, h11, hh, h14, w2]
      refine ⟨⟨k + 1, by omega, th, _, ⟨rfl, rfl⟩, tw ++ [tl], ⟨rfl, rfl⟩, rfl, rfl, by simp [ht1], ht2.append (Nm.Dl.cons hm2 (Nm.Dl.nil _)), hc2, hval2⟩, by omega⟩
    · have hk' : k = R.length := by omega
      refine WS_cond (t := false) (by simp; omega) (fun h => by cases h) (fun _ => ?_)
      refine WS_exit ?_
      simp
      rw [Nm.take_all (by omega), hRval] at ht3
      have hdl : Nm.Dl 4294967296 (tw ++ [c]) := ht2.append (Nm.Dl.cons (by omega) (Nm.Dl.nil _))
      have hval : Nm.val 4294967296 (tw ++ [c]) = 2 * Rv + bit := by
        rw [Nm.val_append, ht1]; simp only [Nm.val, Nat.mul_zero, Nat.add_zero]; exact ht3
      have htrim : Nm.trim (tw ++ [c]) = Nm.dig 4294967296 (2 * Rv + bit) := by rw [← Nm.dig_val (by omega) hdl, hval]
      refine WS_seq (WS_reg [67] ?_)
      simp [h12, h13, hh12, ht1, take_all' ht1]
      refine ⟨by omega, ?_⟩
      refine callK (rcut_spec (tw ++ [c]) (by simp; omega)) ?_
      rw [htrim]
      simp
      have hR1d := Nm.dig_lt (B := 4294967296) (by omega) (2 * Rv + bit)
      have hR1v := Nm.val_dig (B := 4294967296) (by omega) (2 * Rv + bit)
      refine WS_seq (WS_reg [] ?_)
      simp [h7]
      refine callK (rcompare_spec _ _ hR1d d2 (by omega) (by omega)) ?_
      rw [hR1v, v2]
      by_cases hge : Y ≤ 2 * Rv + bit
      · obtain ⟨q1, q2⟩ := hst1 hge
        obtain ⟨o1, o2⟩ := hor
        have hcmp : 0 ≤ Nm.cmpN (2 * Rv + bit) Y := by
          unfold Nm.cmpN; rw [if_neg (by omega)]; split <;> omega
        have hlen := Nm.dig_length_mono (B := 4294967296) (by omega) hge
        rw [← hy] at hlen
        have e3 := abin_shl (k := .i64) 1 (s : Int) s rfl (by omega)
        have h2s : 2 ^ s < 2 ^ 64 := Nat.pow_lt_pow_right (by omega) (by omega)
        rw [Nat.one_mul, Nat.mod_eq_of_lt h2s] at e3
        have e3' : abin .shl (.i .u64 1) (.i .i64 (s : Int)) = some (True, .i .u64 ((2 ^ s : Nat) : Int)) := e3
        have e4 := abin_or (q.getD u 0) (2 ^ s) (by omega) h2s
        have hqu : q.getD u 0 = q[u] := by simp [List.getD, hqlen]
        rw [hqu] at o1 o2 e4
        obtain ⟨Z, hZ⟩ : ∃ Z, Z = 2 ^ s := ⟨_, rfl⟩
        rw [← hZ] at e3' e4 o1 o2
        obtain ⟨W, hW⟩ : ∃ W, W = q[u] ||| Z := ⟨_, rfl⟩
        rw [← hW] at e4 o1 o2
        have hun : u < n := by omega
        simp [hcmp]
        refine WS_cond (t := true) (by simp) (fun _ => ?_) (fun h => by cases h)
        refine WS_seq (WS_reg [] ?_)
        simp [h7]
        refine callK (rless_spec _ _ hR1d d2 (by omega) hlen (by rw [hR1v, v2]; exact hge)) ?_
        rw [hR1v, v2, ← q2]
        simp
        refine WS_regD [] ?_
        simp [h9, h11, hh, hdiv, hmod, wu, hqlen, hun, e3', e4]
        refine ⟨rfl, ?_⟩
        have w3 : IntKind.i64.wrap ((i : Int) - 1) = (i : Int) - 1 := i64_int _ (by omega) (by omega)
        refine WS_reg [] ?_
        simp [h7, h8, h9, h11, w3]
        refine ⟨i, by omega, rfl, rfl, q.set u W, rfl, by simp [hq1], hq2.set o1 _, ?_⟩
        rw [o2, q1, Nat.add_mul, Nat.one_mul, Nat.pow_succ, Nat.mul_comm (2 ^ i) 2, ← Nat.mul_assoc, Nat.mul_comm (M / Y) 2]
      · obtain ⟨q1, q2⟩ := hst2 (by omega)
        have hcmp : Nm.cmpN (2 * Rv + bit) Y = -1 := by
          unfold Nm.cmpN; rw [if_pos (by omega)]
        rw [← q2]
        rw [← q2] at hcmp
        simp [hcmp]
        refine WS_cond (t := false) (by simp) (fun h => by cases h) (fun _ => ?_)
        refine WS_skip ?_
        simp
        have w3 : IntKind.i64.wrap ((i : Int) - 1) = (i : Int) - 1 := i64_int _ (by omega) (by omega)
        refine WS_reg [] ?_
        simp [h7, h8, h9, h11, hh, w3]
        refine ⟨i, by omega, rfl, rfl, q, rfl, hq1, hq2, ?_⟩
        rw [hq3, q1, Nat.pow_succ, Nat.mul_comm (2 ^ i) 2, ← Nat.mul_assoc, Nat.mul_comm (M / Y) 2]
  · have hj0 : j = 0 := by omega
    subst hj0
    simp at h10 hq3
    refine WS_cond (t := false) (by simp) (fun h => by cases h) (fun _ => ?_)
    refine WS_exit ?_
    simp
    refine WS_frz 24 9 none ?_
    simp [frzQ, h9, hh, hq1, take_all' hq1]
    refine WS_seq (WS_reg [] ?_)
    simp
    refine callK (rlimbs_spec q hq2 (by omega)) ?_
    rw [hq3]
    simp [h10]
    have hlr := Nm.dig_length_le (B := 4294967296) (by omega) (n := N % Y) (k := y.length + 1) (by have := Nat.mod_lt N hY0; omega)
    refine callK (rlimbs_spec (Nm.dig 4294967296 (N % Y)) (Nm.dig_lt (by omega) _) (by omega)) ?_
    rw [Nm.val_dig (by omega)]
    simp
    refine WS_ret ?_
    simp [U]
end Go.Vw
