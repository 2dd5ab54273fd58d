/- Functions of cleaverref01: digits, limbs, which is greater, sums, products. -/
import Derived.Test.YtphcdigmgbhjcaaF2
import Derived.Test.YtphcdigmgbhjcaaNA
set_option linter.unusedVariables false
set_option linter.unusedSimpArgs false
namespace Go.Vw
open Go.Proofs

attribute [local simp] RunL_cons RunL_nil AOp_none AOp_some acK_v acK_call agK_tt agK_ff agK_tf agK_ft agK_tup agK_i aop aun St.ev St.heap St.put thenQ blockQ upd_apply S0 argSlot lowV V.cells V.isAgg V.fits V.part partOk plains St.ret retSV svOf svsOf retQ retP retAll retOne uL_length uL_get? uL_get St.elems retH ownIdx ownAt
attribute [local simp] RunD_none RunD_some RunD_nil RunE_any acD_v acD_call agD_tt agD_ff agD_tf agD_ft agD_tup entsOf svref SO.opds SO.writes SO.makes callEnt pureSV pureOf RV.isOwn
attribute [local simp] abin_add abin_sub abin_mul abin_quo abin_rem abin_eql abin_neq abin_lss abin_leq abin_gtr abin_geq
attribute [local simp] uL_snoc uL_set uL_take uL_drop uL_append uL_replicate uL_nil
attribute [local simp] acK_callG acD_callG St.giv gsSV gvSV retEnts ownEnts SO.still
attribute [local simp] S0G argSlotG givSV retQG retPG retAllG retOneG HObj.width V.scalar trimQ V.byte
theorem getD_take_pred {a : List Nat} {n : Nat} (hp : 0 < n) (hn : n ≤ a.length) : (a.take n).getD ((a.take n).length - 1) 0 = a[n - 1]'(by omega) := by
  have : (a.take n).length = n := by simp [hn]
  rw [this]
  simp [List.getD, List.getElem?_take, show n - 1 < n by omega, show n - 1 < a.length by omega]


theorem rcut_spec (a : List Nat) (hl : a.length ≤ 2 ^ 62) : Spec Try.prog f_ref01_cut [U a] (· = [.pure (U (Nm.trim a))]) := by
  refine spec_at Try.func150 ok_ref01_cut [] rfl (by simp) ?_
  unfold sc_ref01_cut U
  refine WS_seq (WS_reg [] ?_)
  simp
  refine WS_seq (WS_reg [] ?_)
  simp
  refine WS_seq (WS_block (WS_loop (fun S => ∃ n : Nat, n ≤ a.length ∧ S.σ 0 = .p (.sl none (uL a)) ∧ S.σ 3 = .p (.i .i64 (n : Int)) ∧ Nm.trim (a.take n) = Nm.trim a) (fun S => match S.σ 3 with | .p (.i _ n) => n.toNat | _ => 0) ⟨a.length, by omega, by simp, by simp, by simp⟩ ?_))
  rintro S ⟨n, hn, h0, h3, ht⟩
  refine WS_seq (WS_seq (WS_reg [] ?_))
  by_cases hp : 0 < n
  · have hw := i64_pred n (by omega) hp
    have hlt : n - 1 < a.length := by omega
    simp [h0, h3, hp, hw, hlt]
    refine WS_cond (by simp; rfl) (fun h => ?_) (fun h => ?_)
    · have hz : a[n - 1] = 0 := by simpa using h
      refine WS_skip ?_
      simp
      refine WS_block (WS_reg [] ?_)
      simp [h0, h3, hw]
      refine ⟨⟨n - 1, by omega, rfl, ?_⟩, by omega⟩
      have := trim_take_zero (l := a.take n) (by simp; omega) (by rw [getD_take_pred hp hn]; exact hz)
      rw [← ht, ← this]
      congr 1
      simp [Nat.min_eq_left hn, List.take_take]
    · have hz : a[n - 1] ≠ 0 := by simpa using h
      refine WS_exit ?_
      simp
      refine WS_seq (WS_reg [] ?_)
      simp [h0, h3, hn]
      refine WS_ret ?_
      simp
      rw [← ht, trim_last (by simp; omega) (by rw [getD_take_pred hp hn]; exact hz)]
  · have hl0 : n = 0 := by omega
    subst hl0
    simp [h0, h3]
    refine WS_cond (by simp; rfl) (fun h => by simp at h) (fun h => ?_)
    refine WS_exit ?_
    simp
    refine WS_seq (WS_reg [] ?_)
    simp [h0, h3]
    refine WS_ret ?_
    simp
    rw [← ht]; rfl

theorem rnorm_spec (a : List Nat) (hl : a.length ≤ 2 ^ 40) : Spec Try.prog f_ref01_Norm [U a] (· = [.pure (U (Nm.trim a))]) := by
  refine spec_at Try.func47 ok_ref01_Norm [] rfl (by simp) ?_
  unfold sc_ref01_Norm U
  refine WS_seq (WS_reg [] ?_)
  simp
  refine WS_seq (WS_reg [] ?_)
  simp
  refine WS_seq (WS_block (WS_loop (fun S => ∃ n : Nat, n ≤ a.length ∧ S.σ 0 = .p (.sl none (uL a)) ∧ S.σ 3 = .p (.i .i64 (n : Int)) ∧ Nm.trim (a.take n) = Nm.trim a) (fun S => match S.σ 3 with | .p (.i _ n) => n.toNat | _ => 0) ⟨a.length, by omega, by simp, by simp, by simp⟩ ?_))
  rintro S ⟨n, hn, h0, h3, ht⟩
  refine WS_seq (WS_seq (WS_reg [] ?_))
  by_cases hp : 0 < n
  · have hw := i64_pred n (by omega) hp
    have hlt : n - 1 < a.length := by omega
    simp [h0, h3, hp, hw, hlt]
    refine WS_cond (by simp; rfl) (fun h => ?_) (fun h => ?_)
    · have hz : a[n - 1] = 0 := by simpa using h
      refine WS_skip ?_
      simp
      refine WS_block (WS_reg [] ?_)
      simp [h0, h3, hw]
      refine ⟨⟨n - 1, by omega, rfl, ?_⟩, by omega⟩
      have := trim_take_zero (l := a.take n) (by simp; omega) (by rw [getD_take_pred hp hn]; exact hz)
      rw [← ht, ← this]
      congr 1
      simp [Nat.min_eq_left hn, List.take_take]
    · have hz : a[n - 1] ≠ 0 := by simpa using h
      refine WS_exit ?_
      simp
      refine WS_seq (WS_reg [18, 22] ?_)
      simp [h0, h3, hn]
      refine ⟨by omega, ?_⟩
      refine WS_ret ?_
      simp
      rw [← ht, trim_last (by simp; omega) (by rw [getD_take_pred hp hn]; exact hz)]
  · have hl0 : n = 0 := by omega
    subst hl0
    simp [h0, h3]
    refine WS_cond (by simp; rfl) (fun h => by simp at h) (fun h => ?_)
    refine WS_exit ?_
    simp
    refine WS_seq (WS_reg [18, 22] ?_)
    simp [h0, h3]
    refine WS_ret ?_
    simp
    rw [← ht]; rfl

theorem rat_spec (a : List Nat) (k : Int) (h0 : 0 ≤ k) : Spec Try.prog f_ref01_at [U a, .i .i64 k] (· = [.pure (.i .u64 ((a.getD k.toNat 0 : Nat) : Int))]) := by
  refine spec_at Try.func140 ok_ref01_at [] rfl (by simp) ?_
  unfold sc_ref01_at U
  refine WS_seq (WS_reg [] ?_)
  simp
  refine WS_seq (WS_seq (WS_reg [] ?_))
  simp
  refine WS_cond (by simp; rfl) (fun h => ?_) (fun h => ?_)
  · have hk : k < a.length := by simpa using h
    refine WS_seq (WS_reg [] ?_)
    have hk' : k.toNat < a.length := by omega
    simp [h0, hk, hk']
    refine WS_ret ?_
    simp
  · have hk : ¬ k < a.length := by simpa using h
    refine WS_skip ?_
    simp
    refine WS_seq (WS_reg [] ?_)
    simp
    refine WS_ret ?_
    have hk' : a.length ≤ k.toNat := by omega
    simp [hk']

theorem rdigits_spec (a : List Nat) (hd : Nm.Dl 18446744073709551616 a) (hl : a.length ≤ 2 ^ 40) : Spec Try.prog f_ref01_digits [U a] (· = [.pure (U (Nm.dig 4294967296 (Nm.val 18446744073709551616 a)))]) := by
  refine spec_at Try.func132 ok_ref01_digits [] rfl (by simp) ?_
  unfold sc_ref01_digits U
  refine WS_seq (WS_reg [] ?_)
  simp
  refine WS_seq (WS_reg [3] ?_)
  simp
  refine WS_seq (WS_seq (WS_reg [] ?_))
  simp
  refine WS_block (WS_loop (fun S => ∃ i g : Nat, i ≤ a.length ∧ S.σ 0 = .p (.sl none (uL a)) ∧ S.σ 4 = .p (.i .i64 (i : Int)) ∧ S.σ 3 = .own 3 g 0 (2 * i) ∧
      S.h 3 = ⟨g, some (.arr 30 none (uL (Nm.digL 4294967296 (a.take i))))⟩) (fun S => match S.σ 4 with | .p (.i _ n) => a.length - n.toNat | _ => 0) ⟨0, 1, by omega, by simp, by simp, by simp, by simp [Nm.digL]⟩ ?_)
  rintro S ⟨i, g, hi, h0, h4, h3, hh⟩
  refine WS_seq (WS_seq (WS_reg [] ?_))
  simp [h0, h4]
  by_cases hlt : i < a.length
  · refine WS_cond (t := true) (by simp [hlt]) (fun _ => ?_) (fun h => by simp at h)
    refine WS_skip ?_
    simp
    refine WS_seq (WS_block (WS_regD [] ?_))
    have hx : a[i] < 18446744073709551616 := hd _ (List.getElem_mem hlt)
    have e1 := abin_mask32 a[i] hx
    have e2 := abin_shr (k := .u64) a[i] 32 32 rfl (by omega)
    simp [h0, h4, h3, hh, hlt, e1, e2]
    refine ⟨⟨by simp [Nm.digL_length]; omega, by omega, by omega⟩, rfl, ?_⟩
    have hw := i64_succ i (by omega)
    refine WS_reg [] ?_
    simp [h4, h0, h3, hh, hw]
    refine ⟨⟨i + 1, by omega, rfl, _, ⟨rfl, by omega⟩, rfl, ?_⟩, by omega⟩
    rw [← List.take_append_getElem hlt, Nm.digL_snoc, take_all' (by simp [Nm.digL_length]; omega)]
    simp [uL]
  · have hi' : i = a.length := by omega
    subst hi'
    refine WS_cond (t := false) (by simp) (fun h => by cases h) (fun _ => ?_)
    refine WS_exit ?_
    simp
    have hl2 : (Nm.digL 4294967296 a).length = 2 * a.length := Nm.digL_length _ _
    refine WS_frz 3 3 none ?_
    simp [frzQ, h3, hh, hl2, take_all' hl2]
    refine WS_seq (WS_reg [] ?_)
    simp
    refine callK (rcut_spec (Nm.digL 4294967296 a) (by omega)) ?_
    simp
    refine WS_ret ?_
    simp [U]
    rw [← Nm.dig_val (by omega) (Nm.digL_lt (by omega) hd), Nm.val_digL]

theorem rlimbs_spec (d : List Nat) (hd : Nm.Dl 4294967296 d) (hl : d.length ≤ 2 ^ 40) : Spec Try.prog f_ref01_limbs [U d] (· = [.pure (U (Nm.dig 18446744073709551616 (Nm.val 4294967296 d)))]) := by
  refine spec_at Try.func133 ok_ref01_limbs [] rfl (by simp) ?_
  unfold sc_ref01_limbs U
  refine WS_seq (WS_reg [] ?_)
  simp
  refine WS_seq (WS_reg [3] ?_)
  simp
  refine WS_seq (WS_seq (WS_reg [] ?_))
  simp
  refine WS_block (WS_loop (fun S => ∃ j g : Nat, 2 * j ≤ d.length + 1 ∧ S.σ 0 = .p (.sl none (uL d)) ∧ S.σ 4 = .p (.i .i64 ((2 * j : Nat) : Int)) ∧ S.σ 3 = .own 3 g 0 j ∧
      S.h 3 = ⟨g, some (.arr 30 none (uL (Nm.limL 4294967296 d j)))⟩) (fun S => match S.σ 4 with | .p (.i _ n) => d.length + 1 - n.toNat | _ => 0) ⟨0, 1, by omega, by simp, by simp, by simp, by simp [Nm.limL]⟩ ?_)
  rintro S ⟨j, g, hj, h0, h4, h3, hh⟩
  refine WS_seq (WS_seq (WS_reg [] ?_))
  generalize hi : 2 * j = i at *
  simp [h0, h4]
  by_cases hlt : i < d.length
  · refine WS_cond (t := true) (by simp [hlt]) (fun _ => ?_) (fun h => by simp at h)
    refine WS_skip ?_
    simp
    have hw := i64_succ i (by omega)
    have hw2 : IntKind.i64.wrap ((i : Int) + 2) = ((i + 2 : Nat) : Int) := by rw [i64_int _ (by omega) (by omega)]; omega
    refine WS_seq (WS_block (WS_seq (WS_reg [] ?_)))
    simp [h0, h4, hlt]
    refine WS_seq (WS_seq (WS_reg [] ?_))
    simp [h0, h4, hw]
    have hx := hd _ (List.getElem_mem hlt)
    by_cases hlt1 : i + 1 < d.length
    · refine WS_cond (t := true) (by simp; omega) (fun _ => ?_) (fun h => by simp at h)
      have hy := hd _ (List.getElem_mem hlt1)
      have e1 := abin_shl (k := .u64) d[i + 1] 32 32 rfl (by omega)
      rw [Nat.mod_eq_of_lt (by omega)] at e1
      have e2 := u64_addf d[i] (d[i + 1] * 2 ^ 32) (by omega)
      have hv : d.getD (2 * j) 0 + d.getD (2 * j + 1) 0 * 4294967296 = d[i] + d[i + 1] * 2 ^ 32 := by rw [hi]; simp [List.getD, hlt, hlt1]
      have hlast : Nm.limL 4294967296 d (j + 1) = Nm.limL 4294967296 d j ++ [d[i] + d[i + 1] * 2 ^ 32] := by rw [Nm.limL_succ, hv]
      obtain ⟨Z, hZ⟩ : ∃ Z, Z = d[i + 1] * 2 ^ 32 := ⟨_, rfl⟩
      rw [← hZ] at e1 e2 hlast
      obtain ⟨W, hW⟩ : ∃ W, W = d[i] + Z := ⟨_, rfl⟩
      rw [← hW] at e2 hlast
      have hw3 : ((i : Int) + 1).toNat = i + 1 := by omega
      have hlt1' : (i : Int) + 1 < d.length := by omega
      refine WS_reg [] ?_
      simp [h0, h4, hw, hlt1, hlt1', e1, e2, hw3]
      refine ⟨by omega, ?_⟩
      refine WS_reg [] ?_
      simp [h3, hh, h0, Nm.limL_length]
      refine ⟨by omega, ?_⟩
      refine WS_reg [] ?_
      simp [h0, h4, hw2]
      refine ⟨⟨j + 1, by omega, by omega, _, ⟨rfl, rfl⟩, rfl, ?_⟩, by omega⟩
      rw [take_all' (Nm.limL_length _ _ _), hlast]
    · refine WS_cond (t := false) (by simp; omega) (fun h => by simp at h) (fun _ => ?_)
      have hlast : Nm.limL 4294967296 d (j + 1) = Nm.limL 4294967296 d j ++ [d[i]] := by
        rw [Nm.limL_succ, hi]
        simp [List.getD, hlt, List.getElem?_eq_none (show d.length ≤ i + 1 by omega)]
      refine WS_skip ?_
      simp
      refine WS_reg [] ?_
      simp [h3, hh, h0, Nm.limL_length]
      refine ⟨by omega, ?_⟩
      refine WS_reg [] ?_
      simp [h0, h4, hw2]
      refine ⟨⟨j + 1, by omega, by omega, _, ⟨rfl, rfl⟩, rfl, ?_⟩, by omega⟩
      rw [take_all' (Nm.limL_length _ _ _), hlast]
  · refine WS_cond (t := false) (by simp; omega) (fun h => by simp at h) (fun _ => ?_)
    refine WS_exit ?_
    simp
    have hl2 : (Nm.limL 4294967296 d j).length = j := Nm.limL_length _ _ _
    refine WS_frz 3 3 none ?_
    simp [frzQ, h3, hh, hl2, take_all' hl2]
    refine WS_seq (WS_reg [] ?_)
    simp
    refine callK (rnorm_spec (Nm.limL 4294967296 d j) (by omega)) ?_
    simp
    refine WS_ret ?_
    simp [U]
    have hlim := Nm.limL_lt (D := 4294967296) (by omega) hd j
    have hval := Nm.val_limL 4294967296 d j
    rw [hi, List.take_of_length_le (by omega)] at hval
    rw [← Nm.dig_val (by omega) hlim, hval]

theorem rpower_spec (n : Nat) (hn : n ≤ 2 ^ 40) : Spec Try.prog f_ref01_power [.i .i64 (n : Int)] (· = [.pure (U (List.replicate (n / 64) 0 ++ [2 ^ (n % 64)]))]) := by
  refine spec_at Try.func126 ok_ref01_power [] rfl (by simp) ?_
  unfold sc_ref01_power
  obtain ⟨q, hq⟩ : ∃ q, q = n / 64 := ⟨_, rfl⟩
  obtain ⟨s, hs⟩ : ∃ s, s = n % 64 := ⟨_, rfl⟩
  have t1 : (n : Int).tdiv 64 = (q : Int) := by have := tdiv_nat n 64; rw [← hq] at this; exact this
  have t2 : (n : Int).tmod 64 = (s : Int) := by have := tmod_nat n 64; rw [← hs] at this; exact this
  have w1 := i64_nat q (by omega)
  have w2 := i64_succ q (by omega)
  have e1 := abin_shl (k := .i64) 1 (s : Int) s rfl (by omega)
  have h2s : 2 ^ s < 2 ^ 64 := Nat.pow_lt_pow_right (by omega) (by omega)
  rw [Nat.one_mul, Nat.mod_eq_of_lt h2s] at e1
  have e1' : abin .shl (.i .u64 1) (.i .i64 (s : Int)) = some (True, .i .u64 ((2 ^ s : Nat) : Int)) := e1
  rw [← hq, ← hs]
  obtain ⟨Z, hZ⟩ : ∃ Z, Z = 2 ^ s := ⟨_, rfl⟩
  rw [← hZ] at e1' ⊢
  refine WS_seq (WS_reg [] ?_)
  simp
  refine WS_seq (WS_reg [] ?_)
  simp [t1, w1, w2]
  refine ⟨by omega, ?_⟩
  refine WS_seq (WS_reg [] ?_)
  simp [t1, t2, w1, e1']
  refine ⟨by omega, ?_⟩
  refine WS_seq (WS_reg [] ?_)
  simp
  refine WS_ret ?_
  simp
  rw [List.take_of_length_le (by simp), List.replicate_succ', List.set_append_right _ _ (by simp)]
  simp [U]

theorem rsame_spec (a : List Nat) (hl : a.length ≤ 2 ^ 40) : Spec Try.prog f_ref01_Same [U a, U a] (· = [.pure (.b true)]) := by
  refine spec_at Try.func127 ok_ref01_Same [] rfl (by simp) ?_
  unfold sc_ref01_Same U
  refine WS_seq (WS_reg [] ?_)
  simp
  refine WS_seq (WS_seq (WS_reg [] ?_))
  simp
  refine WS_cond (t := false) (by simp) (fun h => by cases h) (fun _ => ?_)
  refine WS_skip ?_
  simp
  refine WS_seq (WS_seq (WS_reg [] ?_))
  simp
  refine WS_block (WS_loop (fun S => ∃ i : Nat, i ≤ a.length ∧ S.σ 0 = .p (.sl none (uL a)) ∧ S.σ 1 = .p (.sl none (uL a)) ∧ S.σ 5 = .p (.i .i64 (i : Int))) (fun S => match S.σ 5 with | .p (.i _ n) => a.length - n.toNat | _ => 0) ⟨0, by omega, by simp, by simp, by simp⟩ ?_)
  rintro S ⟨i, hi, h0, h1, h5⟩
  refine WS_seq (WS_seq (WS_reg [] ?_))
  simp [h0, h5]
  by_cases hlt : i < a.length
  · refine WS_cond (t := true) (by simp [hlt]) (fun _ => ?_) (fun h => by cases h)
    refine WS_skip ?_
    simp
    have hw := i64_succ i (by omega)
    refine WS_seq (WS_block (WS_seq (WS_regD [] ?_)))
    simp [h0, h1, h5, hlt]
    refine ⟨rfl, ?_⟩
    refine WS_cond (t := false) (by simp) (fun h => by cases h) (fun _ => ?_)
    refine WS_skip ?_
    simp
    refine WS_reg [] ?_
    simp [h0, h1, h5, hw]
    exact ⟨⟨i + 1, by omega, rfl⟩, by omega⟩
  · refine WS_cond (t := false) (by simp; omega) (fun h => by cases h) (fun _ => ?_)
    refine WS_exit ?_
    simp
    refine WS_seq (WS_reg [] ?_)
    simp
    refine WS_ret ?_
    simp

theorem same_spec (a : List Nat) (hl : a.length ≤ 2 ^ 40) : Spec Try.prog f_law01_same [U a, U a] (· = [.pure (.b true)]) := by
  refine spec_at Try.func35 ok_law01_same [] rfl (by simp) ?_
  unfold sc_law01_same
  refine WS_seq (WS_reg [] ?_)
  simp
  refine WS_seq (WS_reg [] ?_)
  simp
  refine callK (rsame_spec a hl) ?_
  simp
  refine WS_ret ?_
  simp
end Go.Vw
