/- nat.Text, ref01's Text. -/
import Derived.Test.YtphcdigmgbhjcaaF32
set_option linter.unusedVariables false
set_option linter.unusedSimpArgs false
namespace Go.Vw
open Go.Proofs

attribute [local simp] RunL_cons RunL_nil AOp_none AOp_some acK_v acK_call agK_tt agK_ff agK_tf agK_ft agK_tup agK_i aop aun St.ev St.heap St.put thenQ blockQ upd_apply S0 argSlot lowV V.cells V.isAgg V.fits V.part partOk plains St.ret retSV svOf svsOf retQ retP retAll retOne uL_length uL_get? uL_get St.elems retH ownIdx ownAt
attribute [local simp] RunD_none RunD_some RunD_nil RunE_any acD_v acD_call agD_tt agD_ff agD_tf agD_ft agD_tup entsOf svref SO.opds SO.writes SO.makes callEnt pureSV pureOf RV.isOwn
attribute [local simp] abin_add abin_sub abin_mul abin_quo abin_rem abin_eql abin_neq abin_lss abin_leq abin_gtr abin_geq
attribute [local simp] uL_snoc uL_set uL_take uL_drop uL_append uL_replicate uL_nil
attribute [local simp] acK_callG acD_callG St.giv gsSV gvSV retEnts ownEnts SO.still
attribute [local simp] S0G argSlotG givSV retQG retPG retAllG retOneG HObj.width V.scalar trimQ V.byte
theorem sV_length (l : List (List UInt8)) : (sV l).length = l.length := by simp [sV]
theorem sV_snoc (l : List (List UInt8)) (x : List UInt8) : sV l ++ [V.s ⟨x.toArray⟩] = sV (l ++ [x]) := by simp [sV]
theorem sV_reverse (l : List (List UInt8)) : (sV l).reverse = sV l.reverse := by simp [sV]
theorem sV_flat (l : List (List UInt8)) : ∀ v ∈ sV l, v.isAgg = false := by
  intro v hv
  obtain ⟨b, _, rfl⟩ := List.mem_map.1 hv
  rfl

/-- The parts so far, the last one first, behind what is left: the whole. -/
def TxtI (N L : Nat) (S : St) : Prop := ∃ (k g : Nat) (parts : List (List UInt8)), S.σ 0 = .p (U (Nm.dig 18446744073709551616 (N / (10 ^ 19) ^ k))) ∧ S.σ 3 = .own 3 g 0 k ∧ S.h 3 = ⟨g, some (.arr 9 none (sV parts))⟩ ∧ parts.length = k ∧ k ≤ 2 * L ∧
  Nm.decL N = Nm.decL (N / (10 ^ 19) ^ k) ++ parts.reverse.flatten ∧ (k = 0 ∨ N ≠ 0)

def txtM (S : St) : Nat := match S.σ 0 with | .p (.sl _ xs) => Nm.val 18446744073709551616 (xs.map fun | .i _ n => n.toNat | _ => 0) | _ => 0

theorem txtM_eq {S : St} {l : List Nat} (h : S.σ 0 = .p (U l)) : txtM S = Nm.val 18446744073709551616 l := by
  simp only [txtM, h, U, uL, List.map_map]
  congr 1
  have : ((fun | V.i _ n => n.toNat | _ => 0) ∘ fun x : Nat => V.i .u64 (x : Int)) = id := by funext x; simp
  rw [this, List.map_id]

theorem ntext_spec (a : List Nat) (ha : Nm.Dl 18446744073709551616 a) (la : a.length ≤ 2 ^ 35) : Spec Try.prog f_nat_Text [U a] (· = [.pure (.s ⟨(Nm.decT (Nm.val 18446744073709551616 a)).toArray⟩)]) := by
  refine spec_at Try.func52 ok_nat_Text [] rfl (by simp) ?_
  unfold sc_nat_Text
  have pl := plain_spec a (by omega)
  rw [← Nm.dig_val (by omega) ha] at pl
  have hN := Nm.val_lt ha
  obtain ⟨N, hNd⟩ : ∃ N, N = Nm.val 18446744073709551616 a := ⟨_, rfl⟩
  rw [← hNd] at pl hN ⊢
  obtain ⟨L, hL⟩ : ∃ L, L = a.length := ⟨_, rfl⟩
  rw [← hL] at hN la
  have hdl := Nm.decL_length hN
  refine WS_seq (WS_reg [] ?_)
  simp
  refine WS_seq (WS_reg [] ?_)
  simp
  refine callK pl ?_
  simp
  refine WS_seq (WS_reg [3] ?_)
  simp
  refine WS_seq (WS_block (WS_loop (TxtI N L) txtM ⟨0, 1, [], by simp, by simp, by simp [sV], rfl, by omega, by simp, .inl rfl⟩ ?_))
  rintro S ⟨k, g, parts, s0, s3, h3, pk, kL, hdec, hk0⟩
  obtain ⟨M, hM⟩ : ∃ M, M = N / (10 ^ 19) ^ k := ⟨_, rfl⟩
  rw [← hM] at s0 hdec
  have hMle : M ≤ N := by rw [hM]; exact Nat.div_le_self _ _
  have hml := txtM_eq s0
  rw [Nm.val_dig (by omega)] at hml
  have hlen := Nm.dig_length_le (B := 18446744073709551616) (by omega) (Nat.lt_of_le_of_lt hMle hN)
  refine WS_seq (WS_seq (WS_reg [] ?_))
  simp [s0, U]
  by_cases h0 : M = 0
  · subst h0
    rw [Nm.decL_zero, List.nil_append] at hdec
    refine WS_cond (t := false) (by simp [Nm.dig_zero]) (fun h => by cases h) (fun _ => ?_)
    refine WS_exit ?_
    simp
    refine WS_seq (WS_seq (WS_reg [] ?_))
    simp [s3, h3]
    by_cases hk : k = 0
    · subst hk
      have hN0 : N = 0 := by simpa using hM.symm
      refine WS_cond (t := true) (by simp) (fun _ => ?_) (fun h => by cases h)
      refine WS_seq (WS_reg [] ?_)
      simp
      refine WS_ret ?_
      simp [hN0, Nm.decT]
    · have hN0 : N ≠ 0 := by omega
      have rv := revs_given (sV parts) (sV_flat _) (by rw [sV_length]; omega)
      rw [sV_reverse] at rv
      have jn := join_spec parts.reverse (by simp; omega) (by rw [← hdec]; omega)
      rw [← hdec] at jn
      have htk : (sV parts.reverse).take k = sV parts.reverse := List.take_of_length_le (by rw [sV_length]; simp; omega)
      have hrl : parts.reverse.length = k := by simp [pk]
      obtain ⟨Q, hQ⟩ : ∃ Q, Q = parts.reverse := ⟨_, rfl⟩
      rw [← hQ] at rv jn htk hrl
      refine WS_cond (t := false) (by simp [hk]) (fun h => by cases h) (fun _ => ?_)
      refine WS_skip ?_
      simp
      refine WS_seq (WS_reg [] ?_)
      simp [s3, h3, sV_length, pk]
      refine callG rv ?_
      simp
      refine WS_frz 3 3 none ?_
      simp [frzQ, s3, h3, sV_length, hrl, htk]
      refine WS_seq (WS_reg [] ?_)
      simp
      refine callK jn ?_
      simp
      refine WS_ret ?_
      simp [Nm.decT, hN0]
  · have hp := Nm.dig_length_pos (B := 18446744073709551616) (by omega) h0
    have sh := short_spec (Nm.dig 18446744073709551616 M) (Nm.dig_lt (by omega) _) 10000000000000000000 (by omega) (by omega) (by omega)
    rw [Nm.val_dig (by omega)] at sh
    have hEe : (10000000000000000000 : Nat) = 10 ^ 19 := by decide
    have hr := Nat.mod_lt M (show 0 < 10000000000000000000 by omega)
    have hdd : ∀ E : Nat, N / E ^ k / E = N / E ^ (k + 1) := fun E => by rw [Nat.div_div_eq_div_mul, Nat.pow_succ]
    have hM' : M / 10000000000000000000 = N / (10 ^ 19) ^ (k + 1) := by rw [hM, hEe]; exact hdd _
    have hkL : k < 2 * L := by
      rcases Nat.lt_or_ge k (2 * L) with h | h
      · exact h
      · exfalso
        refine h0 ?_
        rw [hM]
        refine Nat.div_eq_of_lt (Nat.lt_of_lt_of_le hN ?_)
        calc 18446744073709551616 ^ L ≤ ((10 ^ 19) ^ 2) ^ L := Nat.pow_le_pow_left (by decide) L
          _ = (10 ^ 19) ^ (2 * L) := (Nat.pow_mul ..).symm
          _ ≤ (10 ^ 19) ^ k := Nat.pow_le_pow_right (by decide) h
    have hlen' := Nm.dig_length_le (B := 18446744073709551616) (n := M / 10000000000000000000) (k := L) (by omega) (Nat.lt_of_le_of_lt (Nat.le_trans (Nat.div_le_self _ _) hMle) hN)
    obtain ⟨r, hrd⟩ : ∃ r, r = M % 10000000000000000000 := ⟨_, rfl⟩
    obtain ⟨M', hM'd⟩ : ∃ r, r = M / 10000000000000000000 := ⟨_, rfl⟩
    rw [← hrd] at sh hr
    rw [← hM'd] at sh hM' hlen'
    have dg := digits_spec r (by omega) (decide (0 < M')) (fun _ => by rw [← hEe]; exact hr)
    have hpart : Nm.decL M = Nm.decL M' ++ (if decide (0 < M') then Nm.padL 19 r else Nm.decL r) := by
      by_cases h : 0 < M'
      · simp only [h, decide_true, if_true]
        rw [hM'd, hEe] at h ⊢
        rw [hrd, hEe, Nm.padL_mod]
        exact Nm.dec_split (by omega)
      · have h1 : M' = 0 := by omega
        simp only [h, decide_false, Bool.false_eq_true, if_false]
        rw [h1, Nm.decL_zero, List.nil_append]
        congr 1
        rw [hrd]
        exact (Nat.mod_eq_of_lt (by omega)).symm
    obtain ⟨D, hD⟩ : ∃ D, D = (if decide (0 < M') then Nm.padL 19 r else Nm.decL r) := ⟨_, rfl⟩
    rw [← hD] at dg hpart
    have hgt : decide ((0 : Int) < ((Nm.dig 18446744073709551616 M').length : Int)) = decide (0 < M') := by
      by_cases h : 0 < M'
      · have := Nm.dig_length_pos (B := 18446744073709551616) (n := M') (by omega) (by omega)
        simp [h]; omega
      · have h1 : M' = 0 := by omega
        rw [h1, Nm.dig_zero]; simp
    rw [← hgt] at dg
    have hpos : ((0 : Int) < ((Nm.dig 18446744073709551616 M).length : Int)) := by omega
    have htk : (sV parts).take k = sV parts := List.take_of_length_le (by rw [sV_length]; omega)
    obtain ⟨DM, hDM⟩ : ∃ D, D = Nm.dig 18446744073709551616 M := ⟨_, rfl⟩
    rw [← hDM] at s0 sh hp hpos hlen ⊢
    obtain ⟨DM', hDM'⟩ : ∃ D, D = Nm.dig 18446744073709551616 M' := ⟨_, rfl⟩
    rw [← hDM'] at sh dg hgt hlen'
    refine WS_cond (t := true) (by simpa using hp) (fun _ => ?_) (fun h => by cases h)
    refine WS_skip ?_
    simp
    refine WS_block (WS_seq (WS_reg [] ?_))
    simp
    refine WS_seq (WS_reg [] ?_)
    simp [s0]
    refine callK sh ?_
    simp
    refine WS_reg [] ?_
    simp [s3, U]
    refine callK (by simpa using dg) ?_
    simp [s3, h3, sV_length, pk, htk]
    have hM'0 : M' < M := by rw [hM'd]; exact Nat.div_lt_self (by omega) (by omega)
    refine ⟨⟨by omega, by omega⟩, ⟨k + 1, g + 1, parts ++ [D], by simp [U, hDM', hM'], by simp, by simp [sV], by simp [pk], by omega, ?_, .inr ?_⟩, ?_⟩
    · rw [← hM', List.reverse_append, List.reverse_cons, List.reverse_nil, List.nil_append, List.singleton_append, List.flatten_cons, ← List.append_assoc, ← hpart]
      exact hdec
    · omega
    · rw [hml, txtM_eq (l := DM') (by simp [U]), hDM', Nm.val_dig (by omega)]
      exact hM'0

def rtxI (N : Nat) (S : St) : Prop := ∃ (k g : Nat) (x : List Nat), S.σ 3 = .own 8 g 0 x.length ∧ S.h 8 = ⟨g, some (.arr 30 none (uL x))⟩ ∧ S.σ 4 = .p (.sl none (bV (Nm.padL k N))) ∧ Nm.Dl 4294967296 x ∧ Nm.trim x = x ∧ Nm.val 4294967296 x = N / 10 ^ k ∧ x.length ≤ 2 ^ 37 ∧ k ≤ 2 ^ 45 ∧
  (k = 0 ∨ N / 10 ^ (k - 1) ≠ 0)

def rtxM (S : St) : Nat := match (S.h 8).o with | some (.arr _ _ xs) => Nm.val 4294967296 (xs.map fun | .i _ n => n.toNat | _ => 0) | _ => 0

theorem rtxM_eq {S : St} {g : Nat} {l : List Nat} (h : S.h 8 = ⟨g, some (.arr 30 none (uL l))⟩) : rtxM S = Nm.val 4294967296 l := by
  simp only [rtxM, h, uL, List.map_map]
  congr 1
  have : ((fun | V.i _ n => n.toNat | _ => 0) ∘ fun x : Nat => V.i .u64 (x : Int)) = id := by funext x; simp
  rw [this, List.map_id]

/-- The digits of base 2^32, from the highest on, by ten. -/
def rtxJ (x : List Nat) (T : List UInt8) (S : St) : Prop := ∃ (j r g : Nat) (y : List Nat), j ≤ x.length ∧ S.σ 3 = .own 8 g 0 x.length ∧ S.σ 4 = .p (.sl none (bV T)) ∧ S.σ 5 = .p (.i .u64 (r : Int)) ∧ S.σ 6 = .p (.i .i64 ((j : Int) - 1)) ∧ S.h 8 = ⟨g, some (.arr 30 none (uL y))⟩ ∧ y.length = x.length ∧ Nm.Dl 4294967296 y ∧
  (∀ p, p < j → y.getD p 0 = x.getD p 0) ∧ r = Nm.val 4294967296 (x.drop j) % 10 ∧ Nm.val 4294967296 (y.drop j) = Nm.val 4294967296 (x.drop j) / 10

def rtxJM (S : St) : Nat := match S.σ 6 with | .p (.i _ k) => (k + 1).toNat | _ => 0

theorem ten_down {H x r : Nat} (hr : r = H % 10) : (x + 4294967296 * H) / 10 = 4294967296 * (H / 10) + (r * 4294967296 + x) / 10 ∧ (x + 4294967296 * H) % 10 = (r * 4294967296 + x) % 10 := by
  omega

theorem drop_eq_of {y x : List Nat} {j : Nat} (hl : y.length = x.length) (h : ∀ p, j ≤ p → y.getD p 0 = x.getD p 0) : y.drop j = x.drop j := by
  refine List.ext_getElem (by simp [hl]) fun i h1 h2 => ?_
  have := h (j + i) (by omega)
  simp at h1 h2
  simpa [List.getD, show j + i < y.length by omega, show j + i < x.length by omega] using this

theorem rtext_inner (x : List Nat) (hx : Nm.Dl 4294967296 x) (lx : x.length ≤ 2 ^ 37) (T : List UInt8) (S : St) (g : Nat) (s3 : S.σ 3 = .own 8 g 0 x.length) (s4 : S.σ 4 = .p (.sl none (bV T))) (s5 : S.σ 5 = .p (.i .u64 0)) (h8 : S.h 8 = ⟨g, some (.arr 30 none (uL x))⟩) :
    WS Try.prog 49 sc_ref01_Text.snd.snd.snd.fst.fst.fst.snd.fst.snd.fst (fun e S' => e = .normal ∧ ∃ (g' : Nat) (y : List Nat), S'.σ 3 = .own 8 g' 0 x.length ∧ S'.σ 4 = .p (.sl none (bV T)) ∧ S'.σ 5 = .p (.i .u64 ((Nm.val 4294967296 x % 10 : Nat) : Int)) ∧ S'.h 8 = ⟨g', some (.arr 30 none (uL y))⟩ ∧ y.length = x.length ∧ Nm.Dl 4294967296 y ∧ Nm.val 4294967296 y = Nm.val 4294967296 x / 10) S := by
  unfold sc_ref01_Text
  simp only [SC.snd, SC.fst]
  obtain ⟨n, hn⟩ : ∃ n, n = x.length := ⟨_, rfl⟩
  have w0 : IntKind.i64.wrap ((n : Int) - 1) = (n : Int) - 1 := i64_int _ (by omega) (by omega)
  rw [← hn] at s3
  refine WS_seq (WS_reg [] ?_)
  simp [s3, h8, w0]
  refine WS_block (WS_loop (rtxJ x T) rtxJM ⟨n, 0, g, x, by omega, by simp [s3, hn], by simp [s4], by simp [s5], by simp, by simp [h8], rfl, hx, fun _ _ => rfl, by simp [hn, Nm.val], by simp [hn, Nm.val]⟩ ?_)
  clear s3 s4 s5 h8 g
  clear S
  rintro S ⟨j, r, g, y, hj, s3, s4, s5, s6, h8, yl, yd, ylow, hr, hval⟩
  have hM : rtxJM S = j := by simp [rtxJM, s6]
  refine WS_seq (WS_seq (WS_reg [] ?_))
  simp [s6]
  by_cases hp : 0 < j
  · obtain ⟨i, rfl⟩ : ∃ i, j = i + 1 := ⟨j - 1, by omega⟩
    have hi1 : ((i + 1 : Nat) : Int) - 1 = (i : Int) := by omega
    rw [hi1] at s6
    have hix : i < x.length := by omega
    have hiy : i < y.length := by omega
    have hyx := ylow i (by omega)
    have hd := hx.get (by omega) i
    have hdrop := Nm.val_drop 4294967296 x i
    have hdropy := Nm.val_drop 4294967296 (y.set i ((r * 4294967296 + x.getD i 0) / 10)) i
    obtain ⟨d, hdd⟩ : ∃ d, d = x.getD i 0 := ⟨_, rfl⟩
    rw [← hdd] at hyx hd hdrop hdropy
    have hyi : y[i] = d := by rw [← hyx]; simp [List.getD, hiy]
    have hr10 : r < 10 := by rw [hr]; exact Nat.mod_lt _ (by omega)
    obtain ⟨t1, t2⟩ := ten_down (x := d) hr
    have e1 := abin_shl (k := .u64) r 32 32 rfl (by omega)
    rw [Nat.mod_eq_of_lt (by omega)] at e1
    have e2 := u64_addf (r * 2 ^ 32) d (by omega)
    have hs : r * 2 ^ 32 + d = r * 4294967296 + d := rfl
    rw [hs] at e2
    obtain ⟨s, hsd⟩ : ∃ s, s = r * 4294967296 + d := ⟨_, rfl⟩
    rw [← hsd] at e2 t1 t2 hdropy
    have hs10 : s < 42949672960 := by omega
    have e3 : ((s : Int)).tdiv 10 = ((s / 10 : Nat) : Int) := tdiv_nat s 10
    have e4 : ((s : Int)).tmod 10 = ((s % 10 : Nat) : Int) := tmod_nat s 10
    have e5 : IntKind.u64.wrap ((s / 10 : Nat) : Int) = ((s / 10 : Nat) : Int) := u64_fit _ (by omega)
    have hq : s / 10 < 4294967296 := by omega
    have w1 : IntKind.i64.wrap ((i : Int) - 1) = (i : Int) - 1 := i64_int _ (by omega) (by omega)
    obtain ⟨r32, hr32⟩ : ∃ z, z = r * 2 ^ 32 := ⟨_, rfl⟩
    rw [← hr32] at e1 e2
    obtain ⟨q, hqd⟩ : ∃ z, z = s / 10 := ⟨_, rfl⟩
    obtain ⟨m, hmd⟩ : ∃ z, z = s % 10 := ⟨_, rfl⟩
    rw [← hqd] at e3 e5 hq t1 hdropy
    rw [← hmd] at e4 t2
    have hafter : (y.set i q).drop (i + 1) = y.drop (i + 1) := drop_eq_of (by simp) fun p hp => Nm.getD_set_ne (by omega) q
    rw [hafter, hval, show (y.set i q).getD i 0 = q by simp [List.getD, hiy]] at hdropy
    refine WS_cond (t := true) (by simp; omega) (fun _ => ?_) (fun h => by cases h)
    refine WS_skip ?_
    simp
    refine WS_seq (WS_block (WS_seq (WS_reg [] ?_)))
    simp [s3, s5, s6, h8, e1, e2, hix, hiy, hyi]
    refine WS_seq (WS_reg [] ?_)
    simp [s3, s6, h8, e3, e5, hix, hiy]
    refine WS_reg [] ?_
    simp [e4]
    refine WS_reg [] ?_
    simp [s6, w1]
    refine ⟨⟨i, m, g, y.set i q, by omega, by simp [s3], by simp [s4], by simp, by simp, by simp, by simp [yl], yd.set hq _, fun p hp => ?_, by rw [hdrop, t2], ?_⟩, ?_⟩
    · rw [Nm.getD_set_ne (by omega)]; exact ylow p (by omega)
    · rw [hdropy, hdrop, t1]; omega
    · rw [hM]; simp [rtxJM]
  · have hj0 : j = 0 := by omega
    subst hj0
    refine WS_cond (t := false) (by simp) (fun h => by cases h) (fun _ => ?_)
    refine WS_exit ?_
    simp only [List.drop_zero] at hr hval
    simp [s3, s4, s5, h8, hr]
    exact ⟨y, rfl, yl, yd, hval⟩

theorem rtext_spec (a : List Nat) (ha : Nm.Dl 18446744073709551616 a) (la : a.length ≤ 2 ^ 35) : Spec Try.prog f_ref01_Text [U a] (· = [.pure (.s ⟨(Nm.decT (Nm.val 18446744073709551616 a)).toArray⟩)]) := by
  refine spec_at Try.func53 ok_ref01_Text [] rfl (by simp) ?_
  have hN := Nm.val_lt ha
  have dg := rdigits_spec a ha (by omega)
  have hin := fun (x : List Nat) => rtext_inner x
  unfold sc_ref01_Text at hin ⊢
  simp only [SC.snd, SC.fst] at hin
  obtain ⟨N, hNd⟩ : ∃ N, N = Nm.val 18446744073709551616 a := ⟨_, rfl⟩
  rw [← hNd] at hN dg ⊢
  have hl0 := dig32_len hN
  have hdl := Nm.decL_length hN
  obtain ⟨x0, hx0⟩ : ∃ x, x = Nm.dig 4294967296 N := ⟨_, rfl⟩
  have dx0 : Nm.Dl 4294967296 x0 := by rw [hx0]; exact Nm.dig_lt (by omega) _
  have vx0 : Nm.val 4294967296 x0 = N := by rw [hx0]; exact Nm.val_dig (by omega) _
  have tx0 : Nm.trim x0 = x0 := by rw [hx0]; exact Nm.trim_dig (by omega) _
  rw [← hx0] at hl0 dg
  refine WS_seq (WS_reg [] ?_)
  simp
  refine WS_seq (WS_reg [8] ?_)
  simp
  refine callK dg ?_
  simp [U]
  refine ⟨by omega, ?_⟩
  refine WS_seq (WS_reg [] ?_)
  simp
  refine WS_seq (WS_block (WS_loop (rtxI N) rtxM ⟨0, 2, x0, by simp, by simp, by simp [Nm.padL, Nm.pad, bV], dx0, tx0, by simp [vx0], by omega, by omega, .inl rfl⟩ ?_))
  rintro S ⟨k, g, x, s3, h8, s4, dx, tx, vx, lx, hk, hkn⟩
  have hM := rtxM_eq h8
  obtain ⟨M, hMd⟩ : ∃ M, M = N / 10 ^ k := ⟨_, rfl⟩
  rw [← hMd] at vx
  rw [vx] at hM
  refine WS_seq (WS_seq (WS_reg [] ?_))
  simp [s3, h8]
  by_cases h0 : x = []
  · subst h0
    have hM0 : M = 0 := by rw [← vx]; rfl
    refine WS_cond (t := false) (by simp) (fun h => by cases h) (fun _ => ?_)
    refine WS_exit ?_
    simp
    have hall := Nm.padL_all (by rw [← hMd]; exact hM0) hkn
    rw [hall] at s4
    refine WS_seq (WS_seq (WS_reg [] ?_))
    simp [s4, bV_length]
    by_cases hN0 : N = 0
    · refine WS_cond (t := true) (by simp [hN0, Nm.decL_zero]) (fun _ => ?_) (fun h => by cases h)
      refine WS_seq (WS_reg [] ?_)
      simp
      refine WS_ret ?_
      simp [hN0, Nm.decT]
    · have hne : Nm.decL N ≠ [] := by
        obtain ⟨d, r, e, _, _⟩ := Nm.decL_head hN0
        rw [e]; simp
      refine WS_cond (t := false) (by simp [hne]) (fun h => by cases h) (fun _ => ?_)
      refine WS_skip ?_
      simp
      refine WS_seq (WS_reg [] ?_)
      simp [s4, bV_byte]
      refine ⟨bV_ex _, ?_⟩
      refine WS_ret ?_
      simp [Nm.decT, hN0]
  · have hM0 : M ≠ 0 := by
      intro h
      rw [h] at vx
      have := Nm.dig_val (B := 4294967296) (by omega) dx
      rw [vx, tx, Nm.dig_zero] at this
      exact h0 this.symm
    have hpos : ((0 : Int) < (x.length : Int)) := by
      have : x.length ≠ 0 := fun h => h0 (List.eq_nil_of_length_eq_zero h)
      omega
    refine WS_cond (t := true) (by simpa using Nat.pos_of_ne_zero (fun h => h0 (List.eq_nil_of_length_eq_zero h))) (fun _ => ?_) (fun h => by cases h)
    refine WS_skip ?_
    simp
    refine WS_block (WS_seq (WS_reg [] ?_))
    simp
    refine WS_cut _ (hin x dx lx (Nm.padL k N) _ g (by simp [s3]) (by simp [s4]) (by simp) (by simp [h8])) ?_
    rintro S' ⟨g', y, t3, t4, t5, t8, yl, yd, yv⟩
    rw [vx] at yv t5
    have hk46 : k < 20 * a.length := by
      rcases Nat.lt_or_ge k (20 * a.length) with h | h
      · exact h
      · exfalso
        refine hM0 ?_
        rw [hMd]
        refine Nat.div_eq_of_lt (Nat.lt_of_lt_of_le hN ?_)
        calc 18446744073709551616 ^ a.length ≤ (10 ^ 20) ^ a.length := Nat.pow_le_pow_left (by decide) _
          _ = 10 ^ (20 * a.length) := (Nat.pow_mul ..).symm
          _ ≤ 10 ^ k := Nat.pow_le_pow_right (by decide) h
    have ct := rcut_given y (by omega)
    have hsn : bV (Nm.padL (k + 1) N) = [V.i .u8 ((Nm.txB (M % 10)).toNat : Int)] ++ bV (Nm.padL k N) := by rw [Nm.padL_succ, ← hMd]; rfl
    have hd10 : M % 10 < 10 := Nat.mod_lt _ (by omega)
    have bd := byte_digit (M % 10) hd10
    have htl := Nm.trim_length_le y
    obtain ⟨dg, hdg⟩ : ∃ z, z = M % 10 := ⟨_, rfl⟩
    rw [← hdg] at bd t5 hsn
    obtain ⟨PL, hPL⟩ : ∃ z, z = Nm.padL k N := ⟨_, rfl⟩
    have hPLl : PL.length = k := by rw [hPL]; exact Nm.padL_length _ _
    rw [← hPL] at t4 hsn
    refine WS_seq (WS_reg [] ?_)
    simp [t3, t8, yl]
    refine callG ct ?_
    simp
    refine WS_trim 8 3 ?_
    simp [t3, t8]
    refine ⟨htl, ?_⟩
    have vy : Nm.val 4294967296 (Nm.trim y) = N / 10 ^ (k + 1) := by rw [Nm.trim_val, yv, hMd, Nat.div_div_eq_div_mul, Nat.pow_succ]
    refine WS_reg [41, 43] ?_
    simp [t4, t5, bd, bV_length, hPLl]
    refine ⟨by omega, ⟨k + 1, g' + 1, Nm.trim y, by simp, by simp [take_trim], by rw [hsn]; simp, by rw [Nm.trim_take]; exact yd.take _, trim_idem (by omega) yd, vy, by omega, by omega, .inr (by rw [Nat.add_sub_cancel, ← hMd]; exact hM0)⟩, ?_⟩
    rw [hM, rtxM_eq (l := Nm.trim y) (by simp [take_trim]; rfl), Nm.trim_val, yv]
    exact Nat.div_lt_self (by omega) (by omega)
end Go.Vw
