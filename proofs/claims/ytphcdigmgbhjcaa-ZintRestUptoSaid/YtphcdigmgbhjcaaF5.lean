/- Functions of nat: up and down by powers of two. -/
import Derived.Test.YtphcdigmgbhjcaaF3
import Derived.Test.YtphcdigmgbhjcaaNA
set_option linter.unusedVariables false
set_option linter.unusedSimpArgs false
namespace Go.Vw
open Go.Proofs

attribute [local simp] RunL_cons RunL_nil AOp_none AOp_some acK_v acK_call agK_tt agK_ff agK_tf agK_ft agK_tup agK_i aop aun St.ev St.heap St.put thenQ blockQ upd_apply S0 argSlot lowV V.cells V.isAgg V.fits V.part partOk plains St.ret retSV svOf svsOf retQ retP retAll retOne uL_length uL_get? uL_get St.elems retH ownIdx ownAt
attribute [local simp] RunD_none RunD_some RunD_nil RunE_any acD_v acD_call agD_tt agD_ff agD_tf agD_ft agD_tup entsOf svref SO.opds SO.writes SO.makes callEnt pureSV pureOf RV.isOwn
attribute [local simp] abin_add abin_sub abin_mul abin_quo abin_rem abin_eql abin_neq abin_lss abin_leq abin_gtr abin_geq
attribute [local simp] uL_snoc uL_set uL_take uL_drop uL_append uL_replicate uL_nil
attribute [local simp] acK_callG acD_callG St.giv gsSV gvSV retEnts ownEnts SO.still
attribute [local simp] S0G argSlotG givSV retQG retPG retAllG retOneG HObj.width V.scalar trimQ V.byte
theorem shl1_spec (a : List Nat) (ha : Nm.Dl 18446744073709551616 a) (k c n s : Nat) (hs : n % 64 = s) (hk : k < a.length) (hc : c < 2 ^ s) (hn : n < 2 ^ 62) :
    Spec Try.prog f_nat_Shl_1 ([.i .i64 (k : Int), .i .u64 (c : Int)] ++ [.ref none (U a), .ref none (.i .i64 (n : Int))]) (· = [.pure (.i .u64 ((Nm.shlF 18446744073709551616 s a k c).1 : Nat)), .pure (.i .u64 ((Nm.shlF 18446744073709551616 s a k c).2 : Nat))]) := by
  refine spec_at Try.func123 ok_nat_Shl_1 [] rfl (by simp) ?_
  unfold sc_nat_Shl_1 U
  have hs64 : s < 64 := by omega
  have hx : a[k] < 18446744073709551616 := ha _ (List.getElem_mem hk)
  have htm : (n : Int).tmod 64 = (s : Int) := by have := tmod_nat n 64; rw [hs] at this; exact this
  have hw : IntKind.i64.wrap (63 - (s : Int)) = ((63 - s : Nat) : Int) := by rw [i64_int _ (by omega) (by omega)]; omega
  have e1 := abin_shl (k := .i64) a[k] (s : Int) s rfl (by omega)
  have e2 := abin_shr (k := .u64) a[k] 1 1 rfl (by omega)
  have hd1 : a[k] * 2 ^ s % 18446744073709551616 = a[k] % 2 ^ (64 - s) * 2 ^ s := by
    have : (18446744073709551616 : Nat) = 2 ^ s * 2 ^ (64 - s) := by rw [← Nat.pow_add, show s + (64 - s) = 64 by omega]
    rw [this, Nat.mul_comm a[k], Nat.mul_mod_mul_left, Nat.mul_comm]
  have hd2 : a[k] / 2 ^ 1 / 2 ^ (63 - s) = a[k] * 2 ^ s / 18446744073709551616 := by
    have : (18446744073709551616 : Nat) = 2 ^ (64 - s) * 2 ^ s := by rw [← Nat.pow_add, show (64 - s) + s = 64 by omega]
    rw [this, Nat.mul_div_mul_right _ _ (Nat.pow_pos (by omega)), Nat.div_div_eq_div_mul, ← Nat.pow_add, show 1 + (63 - s) = 64 - s by omega]
  have r1 : (Nm.shlF 18446744073709551616 s a k c).1 = a[k] * 2 ^ s % 18446744073709551616 + c := by simp [Nm.shlF, List.getD, hk]
  have r2 : (Nm.shlF 18446744073709551616 s a k c).2 = a[k] * 2 ^ s / 18446744073709551616 := by simp [Nm.shlF, List.getD, hk]
  rw [r1, r2]
  have hlo : a[k] * 2 ^ s % 18446744073709551616 < 18446744073709551616 := Nat.mod_lt _ (by omega)
  have hc64 : c < 18446744073709551616 := Nat.lt_of_lt_of_le hc (show 2 ^ s ≤ 2 ^ 64 from Nat.pow_le_pow_right (by omega) (by omega))
  have hor := or_apart (a := a[k] % 2 ^ (64 - s)) hc
  rw [← hd1] at hor
  generalize a[k] * 2 ^ s % 18446744073709551616 = X at *
  have e3 := abin_or X c hlo hc64
  rw [hor] at e3
  have hh : a[k] / 2 ^ 1 < 18446744073709551616 := Nat.lt_of_le_of_lt (Nat.div_le_self _ _) hx
  generalize hY : a[k] / 2 ^ 1 = Y at *
  have e4 := abin_shr (k := .i64) Y ((63 - s : Nat) : Int) (63 - s) rfl (by omega)
  rw [hd2] at e4
  generalize a[k] * 2 ^ s / 18446744073709551616 = Z at *
  generalize 63 - s = t at *
  generalize X + c = W at *
  refine WS_seq (WS_reg [] ?_)
  simp
  refine WS_seq (WS_regD [] ?_)
  simp [hk, htm, e1, e2, hw, e3, e4]
  refine ⟨rfl, ?_⟩
  refine WS_ret ?_
  simp

theorem shr1_arith {x y s : Nat} (hs : s < 64) (hx : x < 18446744073709551616) (hy : y < 18446744073709551616) :
    y * 2 ^ 1 % 18446744073709551616 * 2 ^ (63 - s) % 18446744073709551616 = y % 2 ^ s * 2 ^ (64 - s) ∧ x / 2 ^ s < 18446744073709551616 ∧ y % 2 ^ s * 2 ^ (64 - s) < 18446744073709551616 ∧
    (x / 2 ^ s ||| y % 2 ^ s * 2 ^ (64 - s)) = x / 2 ^ s + y % 2 ^ s * 2 ^ (64 - s) := by
  have h2 : (18446744073709551616 : Nat) = 2 ^ (64 - s) * 2 ^ s := by rw [← Nat.pow_add, show (64 - s) + s = 64 by omega]
  have hlo : x / 2 ^ s < 2 ^ (64 - s) := Nat.div_lt_of_lt_mul (by rw [Nat.mul_comm, ← h2]; exact hx)
  have hm : ∀ M : Nat, M = 2 ^ (64 - s) * 2 ^ s → y * 2 ^ 1 % M * 2 ^ (63 - s) % M = y % 2 ^ s * 2 ^ (64 - s) := fun M hM => by
    rw [Nat.mod_mul_mod, Nat.mul_assoc, ← Nat.pow_add, show 1 + (63 - s) = 64 - s by omega, hM, Nat.mul_comm y, Nat.mul_mod_mul_left, Nat.mul_comm]
  refine ⟨hm _ h2, Nat.lt_of_le_of_lt (Nat.div_le_self _ _) hx, ?_, ?_⟩
  · have h3 : y % 2 ^ s < 2 ^ s := Nat.mod_lt _ (Nat.pow_pos (by omega))
    have h4 := Nat.mul_lt_mul_of_pos_right h3 (show 0 < 2 ^ (64 - s) from Nat.pow_pos (by omega))
    rw [Nat.mul_comm (2 ^ s), ← h2] at h4
    exact h4
  · rw [Nat.or_comm, or_apart hlo, Nat.add_comm]

theorem shr1_spec (a : List Nat) (ha : Nm.Dl 18446744073709551616 a) (k c s : Nat) (hs : s < 64) (hk : k < a.length) (hl : a.length ≤ 2 ^ 40) :
    Spec Try.prog f_nat_Shr_1 ([.i .i64 (k : Int), .i .u64 (c : Int)] ++ [.ref none (U a), .ref none (.i .i64 (s : Int))]) (· = [.pure (.i .u64 ((Nm.shrF s (64 - s) a k : Nat) : Int)), .pure (.i .u64 ((0 : Nat) : Int))]) := by
  refine spec_at Try.func128 ok_nat_Shr_1 [] rfl (by simp) ?_
  unfold sc_nat_Shr_1
  have hx : a[k] < 18446744073709551616 := ha _ (List.getElem_mem hk)
  have hy := ha.get (by omega) (k + 1)
  obtain ⟨y, hyd⟩ : ∃ y, y = a.getD (k + 1) 0 := ⟨_, rfl⟩
  have hF : Nm.shrF s (64 - s) a k = a[k] / 2 ^ s + y % 2 ^ s * 2 ^ (64 - s) := by rw [Nm.shrF, ← hyd]; simp [List.getD, hk]
  have hty : a[((k : Int) + 1).toNat]?.getD 0 = y := by rw [show ((k : Int) + 1).toNat = k + 1 by omega, hyd, List.getD_eq_getElem?_getD]
  have hty' : a[k + 1]?.getD 0 = y := by rw [hyd, List.getD_eq_getElem?_getD]
  rw [← hyd] at hy
  obtain ⟨hm, hlo64, hhi64, hor⟩ := shr1_arith hs hx hy
  have hw := i64_succ k (by omega)
  have hw63 : IntKind.i64.wrap (63 - (s : Int)) = ((63 - s : Nat) : Int) := by rw [i64_int _ (by omega) (by omega)]; omega
  have e1 := abin_shr (k := .i64) a[k] (s : Int) s rfl (by omega)
  have e2 := abin_shl (k := .u64) y 1 1 rfl (by omega)
  have e3 := abin_shl (k := .i64) (y * 2 ^ 1 % 18446744073709551616) ((63 - s : Nat) : Int) (63 - s) rfl (by omega)
  have e4 := abin_or (a[k] / 2 ^ s) (y % 2 ^ s * 2 ^ (64 - s)) hlo64 hhi64
  rw [hm] at e3
  rw [hor, ← hF] at e4
  obtain ⟨p, hp⟩ : ∃ p, p = a[k] / 2 ^ s := ⟨_, rfl⟩
  obtain ⟨q, hq⟩ : ∃ q, q = y % 2 ^ s * 2 ^ (64 - s) := ⟨_, rfl⟩
  obtain ⟨z, hz⟩ : ∃ z, z = y * 2 ^ 1 % 18446744073709551616 := ⟨_, rfl⟩
  obtain ⟨t, ht⟩ : ∃ t, t = 63 - s := ⟨_, rfl⟩
  obtain ⟨W, hW⟩ : ∃ W, W = Nm.shrF s (64 - s) a k := ⟨_, rfl⟩
  rw [← hp] at e1
  rw [← hz] at e2
  rw [← hz, ← ht, ← hq] at e3
  rw [← hp, ← hq, ← hW] at e4
  rw [← ht] at hw63
  rw [← hW]
  clear hm hor hlo64 hhi64 hp hq hz hF hW
  refine WS_seq (WS_reg [] ?_)
  simp [U]
  refine WS_seq (WS_regD [] ?_)
  simp [hk, hw, e1]
  refine callD (at_spec a ((k : Int) + 1) (by omega)) rfl ?_
  simp [hty, hty', e2, e3, e4, hw63]
  refine ⟨rfl, ?_⟩
  refine WS_ret ?_
  simp

theorem shl_digits {B q N k : Nat} (hB : 2 ≤ B) (h : N / B ^ k < B) : Nm.trim (List.replicate q 0 ++ (Nm.pad B k N ++ [N / B ^ k])) = Nm.dig B (B ^ q * N) := by
  rw [Nm.pad_cat N k h]
  have hlt : N < B ^ (k + 1) := by
    rw [Nat.pow_succ, Nat.mul_comm]
    exact (Nat.div_lt_iff_lt_mul (Nat.pow_pos (by omega))).1 h
  rw [← Nm.dig_val hB ((Nm.Dl.replicate (by omega) q).append (Nm.pad_lt (by omega) _ _)), Nm.val_append, Nm.val_replicate, Nm.val_pad, Nat.mod_eq_of_lt hlt]
  simp

theorem nshl_spec (a : List Nat) (ha : Nm.Dl 18446744073709551616 a) (hl : a.length ≤ 2 ^ 38) (n : Int) :
    Spec Try.prog f_nat_Shl [U a, .i .i64 n] (· = if n < 0 ∨ 262144 < n then [.pure (U []), .pure (.i .i64 1)] else [.pure (U (Nm.dig 18446744073709551616 (Nm.val 18446744073709551616 a * 2 ^ n.toNat))), .pure (.i .i64 0)]) := by
  refine spec_at Try.func33 ok_nat_Shl [] rfl (by simp) ?_
  unfold sc_nat_Shl
  refine WS_seq (WS_reg [] ?_)
  simp [U]
  refine WS_frz 2 2 none ?_
  simp [frzQ]
  refine WS_frz 3 3 none ?_
  simp [frzQ]
  refine WS_seq (WS_seq (WS_reg [] ?_))
  by_cases h1 : n < 0
  · simp [h1]
    refine WS_cond (t := true) (by simp) (fun _ => ?_) (fun h => by cases h)
    refine WS_seq (WS_reg [] ?_)
    simp
    refine WS_ret ?_
    simp
  · by_cases h2 : 262144 < n
    · simp [h1, h2]
      refine WS_cond (t := true) (by simp) (fun _ => ?_) (fun h => by cases h)
      refine WS_seq (WS_reg [] ?_)
      simp
      refine WS_ret ?_
      simp
    · simp [h1, h2]
      refine WS_cond (t := false) (by simp) (fun h => by cases h) (fun _ => ?_)
      refine WS_skip ?_
      simp
      obtain ⟨m, rfl⟩ : ∃ m : Nat, n = m := ⟨n.toNat, by omega⟩
      obtain ⟨q, hq⟩ : ∃ q, q = m / 64 := ⟨_, rfl⟩
      obtain ⟨s, hs⟩ : ∃ s, s = m % 64 := ⟨_, rfl⟩
      have hd : (m : Int).tdiv 64 = (q : Int) := by have := tdiv_nat m 64; rw [← hq] at this; exact this
      have hwq := i64_nat q (by omega)
      have hB : (2 : Nat) ^ (s + (64 - s)) = 18446744073709551616 := by rw [show s + (64 - s) = 64 by omega]
      have hrun := Nm.crun_shl (s := s) (t := 64 - s) (a := a) (by rw [hB]; exact ha)
      rw [hB] at hrun
      obtain ⟨hr, hc⟩ := hrun
      have hs64 : 2 ^ s ≤ 2 ^ 63 := Nat.pow_le_pow_right (by omega) (by omega)
      have hdig := shl_digits (B := 18446744073709551616) (q := q) (k := a.length) (N := Nm.val 18446744073709551616 a * 2 ^ s) (by omega) (by omega)
      have hval : 18446744073709551616 ^ q * (Nm.val 18446744073709551616 a * 2 ^ s) = Nm.val 18446744073709551616 a * 2 ^ m := by
        have e : (18446744073709551616 : Nat) ^ q * 2 ^ s = 2 ^ m := by
          rw [show (18446744073709551616 : Nat) = 2 ^ 64 from rfl, ← Nat.pow_mul, ← Nat.pow_add]; congr 1; omega
        rw [Nat.mul_left_comm, e]
      rw [hval] at hdig
      have hlen := Nm.pad_length 18446744073709551616 a.length (Nm.val 18446744073709551616 a * 2 ^ s)
      obtain ⟨L, hL⟩ : ∃ L, L = Nm.pad 18446744073709551616 a.length (Nm.val 18446744073709551616 a * 2 ^ s) := ⟨_, rfl⟩
      obtain ⟨c, hcd⟩ : ∃ c, c = Nm.val 18446744073709551616 a * 2 ^ s / 18446744073709551616 ^ a.length := ⟨_, rfl⟩
      rw [← hL, ← hcd] at hr hdig
      rw [← hL] at hlen
      refine WS_seq (WS_reg [] ?_)
      simp
      refine callK (carried_spec a.length (by omega) 123 [.ref none (U a), .ref none (.i .i64 (m : Int))] (Nm.shlF 18446744073709551616 s a) (fun c => c < 2 ^ s) (Nat.pow_pos (by omega)) (fun k c hk hc => ⟨shl1_spec a ha k c m s hs.symm hk hc (by omega), Nat.div_lt_of_lt_mul (Nat.mul_lt_mul_of_pos_right (ha.get (by omega) k) (Nat.pow_pos (by omega)))⟩)) ?_
      simp [hr]
      refine WS_seq (WS_regD [24] ?_)
      simp [hlen, take_all' hlen, hd, hwq]
      refine ⟨by omega, ?_⟩
      refine callD (moved_spec (L ++ [c]) q (by simp [hlen]; omega) (by omega)) rfl ?_
      simp
      refine callD (plain_spec (List.replicate q 0 ++ (L ++ [c])) (by simp [hlen]; omega)) rfl ?_
      simp
      refine ⟨rfl, ?_⟩
      refine WS_ret ?_
      simp [U, hdig]

theorem nshr_spec (a : List Nat) (ha : Nm.Dl 18446744073709551616 a) (hl : a.length ≤ 2 ^ 38) (n : Int) (hn : n < 2 ^ 63) :
    Spec Try.prog f_nat_Shr [U a, .i .i64 n] (· = [.pure (U (Nm.dig 18446744073709551616 (Nm.val 18446744073709551616 a / 2 ^ n.toNat)))]) := by
  refine spec_at Try.func36 ok_nat_Shr [] rfl (by simp) ?_
  unfold sc_nat_Shr
  obtain ⟨m, hm⟩ : ∃ m : Nat, m = n.toNat := ⟨_, rfl⟩
  have hmax : (if n < 0 then (0 : Int) else n) = (m : Int) := by split <;> omega
  have hmax' : (if 0 < n then n else (0 : Int)) = (m : Int) := by split <;> omega
  rw [← hm]
  obtain ⟨q, hq⟩ : ∃ q, q = m / 64 := ⟨_, rfl⟩
  obtain ⟨s, hs⟩ : ∃ s, s = m % 64 := ⟨_, rfl⟩
  have hd : (m : Int).tdiv 64 = (q : Int) := by have := tdiv_nat m 64; rw [← hq] at this; exact this
  have htm : (m : Int).tmod 64 = (s : Int) := by have := tmod_nat m 64; rw [← hs] at this; exact this
  have hwq := i64_nat q (by omega)
  refine WS_seq (WS_reg [] ?_)
  simp [U]
  refine WS_seq (WS_reg [] ?_)
  simp [hmax, hmax']
  refine WS_seq (WS_seq (WS_reg [] ?_))
  simp [hd, hwq]
  by_cases hle : a.length ≤ q
  · refine WS_cond (t := true) (by simp [hle]) (fun _ => ?_) (fun h => by cases h)
    refine WS_seq (WS_reg [] ?_)
    simp
    refine WS_ret ?_
    have hz : Nm.val 18446744073709551616 a / 2 ^ m = 0 := by
      refine Nat.div_eq_of_lt (Nat.lt_of_lt_of_le (Nm.val_lt ha) ?_)
      rw [show (18446744073709551616 : Nat) = 2 ^ 64 from rfl, ← Nat.pow_mul]
      exact Nat.pow_le_pow_right (by omega) (by omega)
    simp [hz, Nm.dig_zero]
  · refine WS_cond (t := false) (by simp; omega) (fun h => by cases h) (fun _ => ?_)
    refine WS_skip ?_
    simp
    refine WS_seq (WS_reg [] ?_)
    simp [hd, hwq]
    refine ⟨by omega, ?_⟩
    refine WS_seq (WS_reg [] ?_)
    simp [htm]
    refine WS_frz 2 2 none ?_
    simp [frzQ]
    refine WS_frz 3 3 none ?_
    simp [frzQ]
    have hB : (2 : Nat) ^ (s + (64 - s)) = 18446744073709551616 := by rw [show s + (64 - s) = 64 by omega]
    have had : Nm.Dl 18446744073709551616 (a.drop q) := ha.drop q
    obtain ⟨b, hb⟩ : ∃ b, b = a.drop q := ⟨_, rfl⟩
    have hbl : b.length = a.length - q := by rw [hb]; simp
    have hbv : Nm.val 18446744073709551616 b = Nm.val 18446744073709551616 a / 18446744073709551616 ^ q := by rw [hb, Nm.val_drop_div (by omega) ha]
    have hval : Nm.val 18446744073709551616 b / 2 ^ s = Nm.val 18446744073709551616 a / 2 ^ m := by
      rw [hbv, Nat.div_div_eq_div_mul]
      congr 1
      rw [show (18446744073709551616 : Nat) = 2 ^ 64 from rfl, ← Nat.pow_mul, ← Nat.pow_add]; congr 1; omega
    rw [← hb] at had
    have hrun := Nm.crun_shr (s := s) (t := 64 - s) (a := b) (by rw [hB]; exact had)
    have hlt := Nm.shr_lt (s := s) (t := 64 - s) (a := b) (by rw [hB]; exact had)
    rw [hB] at hrun hlt
    rw [hval] at hrun hlt
    have htr := Nm.trim_pad (B := 18446744073709551616) (by omega) hlt
    have hpl := Nm.pad_length 18446744073709551616 b.length (Nm.val 18446744073709551616 a / 2 ^ m)
    obtain ⟨L, hL⟩ : ∃ L, L = Nm.pad 18446744073709551616 b.length (Nm.val 18446744073709551616 a / 2 ^ m) := ⟨_, rfl⟩
    rw [← hL] at hrun htr hpl
    simp only [← hb]
    refine WS_seq (WS_reg [] ?_)
    simp
    refine callK ((carried_spec b.length (by omega) 128 [.ref none (U b), .ref none (.i .i64 (s : Int))] (fun k _ => (Nm.shrF s (64 - s) b k, 0)) (fun _ => True) trivial (fun k c hk _ => ⟨shr1_spec b had k c s (by omega) hk (by omega), trivial⟩)).plain (R' := (· = [.pure (U L), .pure (.i .u64 ((0 : Nat) : Int))])) (by rintro _ rfl; rw [hrun]; rfl)) ?_
    simp
    refine WS_seq (WS_reg [] ?_)
    simp
    refine callK (plain_spec L (by omega)) ?_
    simp
    refine WS_ret ?_
    simp [U, htr]
end Go.Vw
