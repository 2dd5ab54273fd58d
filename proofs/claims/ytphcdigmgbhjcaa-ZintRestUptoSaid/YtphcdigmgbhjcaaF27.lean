/- Functions that are given a row: nat.plain, ref01's cut, slices.Reverse; and nat's results as rows of the caller's own. -/
import Derived.Test.YtphcdigmgbhjcaaF26
set_option linter.unusedVariables false
set_option linter.unusedSimpArgs false
namespace Go.Vw
open Go.Proofs

attribute [local simp] RunL_cons RunL_nil AOp_none AOp_some acK_v acK_call agK_tt agK_ff agK_tf agK_ft agK_tup agK_i aop aun St.ev St.heap St.put thenQ blockQ upd_apply S0 argSlot lowV V.cells V.isAgg V.fits V.part partOk plains St.ret retSV svOf svsOf retQ retP retAll retOne uL_length uL_get? uL_get St.elems retH ownIdx ownAt
attribute [local simp] RunD_none RunD_some RunD_nil RunE_any acD_v acD_call agD_tt agD_ff agD_tf agD_ft agD_tup entsOf svref SO.opds SO.writes SO.makes callEnt pureSV pureOf RV.isOwn
attribute [local simp] abin_add abin_sub abin_mul abin_quo abin_rem abin_eql abin_neq abin_lss abin_leq abin_gtr abin_geq
attribute [local simp] uL_snoc uL_set uL_take uL_drop uL_append uL_replicate uL_nil
attribute [local simp] acK_callG acD_callG St.giv gsSV gvSV retEnts ownEnts SO.still
attribute [local simp] S0G argSlotG givSV retQG retPG retAllG retOneG HObj.width V.scalar trimQ V.byte
theorem trim_take_le {a : List Nat} {k : Nat} (hk : k ≤ a.length) (ht : Nm.trim (a.take k) = Nm.trim a) (hp : k = 0 ∨ (a.take k).getD (k - 1) 0 ≠ 0) : k = (Nm.trim a).length := by
  rcases hp with rfl | hp
  · rw [← ht]; simp [Nm.trim]
  · have hl : (a.take k).length = k := by simp; omega
    have h0 : 0 < k := by
      rcases Nat.eq_zero_or_pos k with h | h
      · subst h; simp at hp
      · exact h
    rw [← ht, trim_last (by omega) (by rw [hl]; exact hp), hl]

theorem plain_given (a : List Nat) (hl : a.length ≤ 2 ^ 62) : SpecG Try.prog f_nat_plain (.arr 30 none (uL a)) [] (fun o g => o = .arr 30 none (uL a) ∧ g = [.sub 0 (Nm.trim a).length]) := by
  refine specG_at Try.func124 ok_nat_plain (by simp) ?_
  unfold sc_nat_plain
  refine WS_seq (WS_reg [] ?_)
  simp
  refine WS_seq (WS_block (WS_loop (fun S => ∃ k : Nat, S.σ 0 = .own 999 0 0 k ∧ S.h 999 = ⟨0, some (.arr 30 none (uL a))⟩ ∧ k ≤ a.length ∧ Nm.trim (a.take k) = Nm.trim a) (fun S => match S.σ 0 with | .own _ _ _ k => k | _ => 0) ⟨a.length, by simp, by simp, Nat.le_refl _, by simp⟩ ?_))
  rintro S ⟨k, h0, hh, hk, ht⟩
  refine WS_seq (WS_seq (WS_reg [] ?_))
  have hlk : (a.take k).length = k := by simp; omega
  by_cases hp : 0 < k
  · have hw := i64_pred k (by omega) hp
    have hlt : k - 1 < a.length := by omega
    have hlt2 : k - 1 < k := by omega
    have hget : (a.take k).getD (k - 1) 0 = a[k - 1] := by simp [List.getD, List.getElem?_take, hlt, hlt2]
    simp [h0, hh, hp, hw, hlt, hlt2]
    refine WS_cond (by simp; rfl) (fun h => ?_) (fun h => ?_)
    · have hz : a[k - 1] = 0 := by simpa using h
      refine WS_skip ?_
      simp
      refine WS_block (WS_reg [] ?_)
      simp [h0, hh, hw, hp]
      have := trim_take_zero (l := a.take k) (by omega) (by rw [hlk, hget, hz])
      rw [hlk, List.take_take, Nat.min_eq_left (by omega)] at this
      first
        | exact ⟨⟨by omega, by rw [this, ht]⟩, hlt2⟩
        | exact ⟨by omega, by rw [this, ht], hlt2⟩
        | exact ⟨⟨k - 1, rfl, by omega, by rw [this, ht]⟩, hlt2⟩
        | exact ⟨by omega, by rw [this, ht]⟩
    · have hz : a[k - 1] ≠ 0 := by simpa using h
      refine WS_exit ?_
      simp
      refine WS_seq (WS_reg [] ?_)
      simp [h0]
      refine WS_ret ?_
      simp [hh]
      exact trim_take_le hk ht (.inr (by rw [hget]; exact hz))
  · have hk0 : k = 0 := by omega
    subst hk0
    simp [h0, hh]
    refine WS_cond (by simp; rfl) (fun h => by simp at h) (fun h => ?_)
    refine WS_exit ?_
    simp
    refine WS_seq (WS_reg [] ?_)
    simp [h0]
    refine WS_ret ?_
    simp [hh]
    rw [← ht]; simp [Nm.trim]

theorem rcut_given (a : List Nat) (hl : a.length ≤ 2 ^ 62) : SpecG Try.prog f_ref01_cut (.arr 30 none (uL a)) [] (fun o g => o = .arr 30 none (uL a) ∧ g = [.sub 0 (Nm.trim a).length]) := by
  refine specG_at Try.func150 ok_ref01_cut (by simp) ?_
  unfold sc_ref01_cut
  refine WS_seq (WS_reg [] ?_)
  simp
  refine WS_seq (WS_reg [] ?_)
  simp
  refine WS_seq (WS_block (WS_loop (fun S => ∃ k : Nat, S.σ 0 = .own 999 0 0 a.length ∧ S.σ 3 = .p (.i .i64 (k : Int)) ∧ S.h 999 = ⟨0, some (.arr 30 none (uL a))⟩ ∧ k ≤ a.length ∧ Nm.trim (a.take k) = Nm.trim a) (fun S => match S.σ 3 with | .p (.i _ k) => k.toNat | _ => 0) ⟨a.length, by simp, by simp, by simp, Nat.le_refl _, by simp⟩ ?_))
  rintro S ⟨k, h0, h3, hh, hk, ht⟩
  refine WS_seq (WS_seq (WS_reg [] ?_))
  have hlk : (a.take k).length = k := by simp; omega
  by_cases hp : 0 < k
  · have hw := i64_pred k (by omega) hp
    have hlt : k - 1 < a.length := by omega
    have hlt2 : k - 1 < k := by omega
    have hget : (a.take k).getD (k - 1) 0 = a[k - 1] := by simp [List.getD, List.getElem?_take, hlt, hlt2]
    simp [h0, h3, hh, hp, hw, hlt, hlt2]
    refine WS_cond (by simp; rfl) (fun h => ?_) (fun h => ?_)
    · have hz : a[k - 1] = 0 := by simpa using h
      refine WS_skip ?_
      simp
      refine WS_block (WS_reg [] ?_)
      simp [h0, h3, hh, hw, hp]
      have := trim_take_zero (l := a.take k) (by omega) (by rw [hlk, hget, hz])
      rw [hlk, List.take_take, Nat.min_eq_left (by omega)] at this
      first
        | exact ⟨⟨by omega, by rw [this, ht]⟩, hlt2⟩
        | exact ⟨by omega, by rw [this, ht], hlt2⟩
        | exact ⟨⟨k - 1, rfl, by omega, by rw [this, ht]⟩, hlt2⟩
        | exact ⟨by omega, by rw [this, ht]⟩
    · have hz : a[k - 1] ≠ 0 := by simpa using h
      refine WS_exit ?_
      simp
      refine WS_seq (WS_reg [] ?_)
      simp [h0, h3, hh, hk]
      refine WS_ret ?_
      simp [hh]
      exact trim_take_le hk ht (.inr (by rw [hget]; exact hz))
  · have hk0 : k = 0 := by omega
    subst hk0
    simp [h0, h3, hh]
    refine WS_cond (by simp; rfl) (fun h => by simp at h) (fun h => ?_)
    refine WS_exit ?_
    simp
    refine WS_seq (WS_reg [] ?_)
    simp [h0, h3, hh]
    refine WS_ret ?_
    simp [hh]
    rw [← ht]; simp [Nm.trim]

/-- Turned round up to a place. -/
def swapN {α : Type} (l : List α) (i j : Nat) (d : α) : List α := (l.set i (l.getD j d)).set j (l.getD i d)

def revUp {α : Type} (l : List α) (d : α) : Nat → List α
  | 0 => l
  | k + 1 => swapN (revUp l d k) k (l.length - 1 - k) d

theorem revUp_length {α : Type} (l : List α) (d : α) : ∀ k, (revUp l d k).length = l.length
  | 0 => rfl
  | k + 1 => by simp [revUp, swapN, revUp_length l d k]

theorem revUp_get {α : Type} (l : List α) (d : α) : ∀ k, 2 * k ≤ l.length → ∀ i, i < l.length → (revUp l d k).getD i d = if i < k ∨ l.length - 1 - i < k then l.getD (l.length - 1 - i) d else l.getD i d
  | 0, _, i, hi => by simp [revUp]
  | k + 1, hk, i, hi => by
    have ih := revUp_get l d k (by omega)
    have hl := revUp_length l d k
    have h1 := ih k (by omega)
    have h2 := ih (l.length - 1 - k) (by omega)
    rw [if_neg (by omega)] at h1 h2
    simp only [revUp, swapN, h1, h2]
    have h3 := ih i hi
    simp only [List.getD, List.getElem?_set, List.length_set, hl] at h3 ⊢
    by_cases e1 : l.length - 1 - k = i
    · subst e1
      have e2 : l.length - 1 - (l.length - 1 - k) = k := by omega
      simp [hi, e2]
    · by_cases e2 : k = i
      · subst e2
        simp [e1, hi]
      · rw [if_neg e1, if_neg e2, h3]
        have : (i < k + 1 ∨ l.length - 1 - i < k + 1) ↔ (i < k ∨ l.length - 1 - i < k) := by omega
        simp only [this]

theorem revUp_all {α : Type} (l : List α) (d : α) {k : Nat} (h1 : 2 * k ≤ l.length) (h2 : l.length ≤ 2 * k + 1) : revUp l d k = l.reverse := by
  refine List.ext_getElem (by simp [revUp_length]) fun i hi hi' => ?_
  have hil : i < l.length := by simpa [revUp_length] using hi
  have := revUp_get l d k h1 i hil
  simp only [List.getD, List.getElem?_eq_getElem hi, Option.getD_some] at this
  rw [this, List.getElem_reverse]
  split
  · simp [show l.length - 1 - i < l.length by omega]
  · have e : l.length - 1 - i = i := by omega
    simp [e, hil]

theorem revb_given (xs : List V) (hf : ∀ v ∈ xs, v.isAgg = false) (hl : xs.length ≤ 2 ^ 40) : SpecG Try.prog f_slices_Reverse_Lbyte_byte (.arr 5 none xs) [] (fun o g => o = .arr 5 none xs.reverse ∧ g = []) := by
  refine specG_at Try.func167 ok_slices_Reverse_Lbyte_byte (by simp) ?_
  unfold sc_slices_Reverse_Lbyte_byte
  obtain ⟨n, hn⟩ : ∃ n, n = xs.length := ⟨_, rfl⟩
  have w0 : IntKind.i64.wrap ((n : Int) - 1) = (n : Int) - 1 := i64_int _ (by omega) (by omega)
  refine WS_seq (WS_reg [] ?_)
  simp [← hn, w0]
  refine WS_block (WS_loop (fun S => ∃ k : Nat, S.σ 0 = .own 999 0 0 n ∧ S.σ 2 = .p (.i .i64 (k : Int)) ∧ S.σ 3 = .p (.i .i64 ((n : Int) - 1 - k)) ∧ S.h 999 = ⟨0, some (.arr 5 none (revUp xs default k))⟩ ∧ 2 * k ≤ n) (fun S => match S.σ 2 with | .p (.i _ k) => n - k.toNat | _ => 0) ⟨0, by simp, by simp, by simp, by simp [revUp], by omega⟩ ?_)
  rintro S ⟨k, h0, h2, h3, hh, hk⟩
  refine WS_seq (WS_seq (WS_reg [] ?_))
  simp [h2, h3]
  by_cases hlt : (k : Int) < n - 1 - k
  · have hj : ((n : Int) - 1 - k) = ((n - 1 - k : Nat) : Int) := by omega
    rw [hj] at h3
    obtain ⟨j, hjd⟩ : ∃ j, j = n - 1 - k := ⟨_, rfl⟩
    rw [← hjd] at h3
    have hrl := revUp_length xs default k
    have hkn : k < n := by omega
    have hjn : j < n := by omega
    have hkr : k < (revUp xs default k).length := by omega
    have hjr : j < (revUp xs default k).length := by omega
    have hnext : revUp xs default (k + 1) = swapN (revUp xs default k) k j default := by simp [revUp, hjd, hn]
    have hff : ∀ v ∈ revUp xs default k, v.isAgg = false := by
      intro v hv
      obtain ⟨i, hi, rfl⟩ := List.getElem_of_mem hv
      have := revUp_get xs default k (by omega) i (by omega)
      simp only [List.getD, List.getElem?_eq_getElem hi, Option.getD_some] at this
      rw [this]
      have h1 : i < xs.length := by omega
      have h2 : xs.length - 1 - i < xs.length := by omega
      split
      · simp [h2, hf, -V.isAgg]
      · simp [h1, hf, -V.isAgg]
    obtain ⟨ys, hys⟩ : ∃ z, z = revUp xs default k := ⟨_, rfl⟩
    rw [← hys] at hh hrl hkr hjr hnext hff
    have f1 : ys[k].isAgg = false := hff _ (List.getElem_mem hkr)
    have f2 : ys[j].isAgg = false := hff _ (List.getElem_mem hjr)
    have w1 := i64_succ k (by omega)
    have w2 : IntKind.i64.wrap ((j : Int) - 1) = (j : Int) - 1 := i64_int _ (by omega) (by omega)
    refine WS_cond (t := true) (by simp; omega) (fun _ => ?_) (fun h => by cases h)
    refine WS_skip ?_
    simp
    refine WS_seq (WS_block (WS_regD [] ?_))
    simp [h0, h2, h3, hh, hkn, hjn, hkr, hjr, V.fits, f1, f2, -V.isAgg]
    refine ⟨rfl, ?_⟩
    refine WS_reg [] ?_
    simp [h0, h2, h3, hh, w1, w2, hnext, swapN, List.getD, hkr, hjr]
    refine ⟨⟨k + 1, rfl, by omega, ?_, by omega⟩, by omega⟩
    rw [hnext]
    simp [swapN, List.getD, hkr, hjr]
  · refine WS_cond (t := false) (by simp; omega) (fun h => by cases h) (fun _ => ?_)
    refine WS_exit ?_
    simp [hh]
    exact revUp_all xs default (by omega) (by omega)
theorem revs_given (xs : List V) (hf : ∀ v ∈ xs, v.isAgg = false) (hl : xs.length ≤ 2 ^ 40) : SpecG Try.prog f_slices_Reverse_Lstring_string (.arr 9 none xs) [] (fun o g => o = .arr 9 none xs.reverse ∧ g = []) := by
  refine specG_at Try.func148 ok_slices_Reverse_Lstring_string (by simp) ?_
  unfold sc_slices_Reverse_Lstring_string
  obtain ⟨n, hn⟩ : ∃ n, n = xs.length := ⟨_, rfl⟩
  have w0 : IntKind.i64.wrap ((n : Int) - 1) = (n : Int) - 1 := i64_int _ (by omega) (by omega)
  refine WS_seq (WS_reg [] ?_)
  simp [← hn, w0]
  refine WS_block (WS_loop (fun S => ∃ k : Nat, S.σ 0 = .own 999 0 0 n ∧ S.σ 2 = .p (.i .i64 (k : Int)) ∧ S.σ 3 = .p (.i .i64 ((n : Int) - 1 - k)) ∧ S.h 999 = ⟨0, some (.arr 9 none (revUp xs default k))⟩ ∧ 2 * k ≤ n) (fun S => match S.σ 2 with | .p (.i _ k) => n - k.toNat | _ => 0) ⟨0, by simp, by simp, by simp, by simp [revUp], by omega⟩ ?_)
  rintro S ⟨k, h0, h2, h3, hh, hk⟩
  refine WS_seq (WS_seq (WS_reg [] ?_))
  simp [h2, h3]
  by_cases hlt : (k : Int) < n - 1 - k
  · have hj : ((n : Int) - 1 - k) = ((n - 1 - k : Nat) : Int) := by omega
    rw [hj] at h3
    obtain ⟨j, hjd⟩ : ∃ j, j = n - 1 - k := ⟨_, rfl⟩
    rw [← hjd] at h3
    have hrl := revUp_length xs default k
    have hkn : k < n := by omega
    have hjn : j < n := by omega
    have hkr : k < (revUp xs default k).length := by omega
    have hjr : j < (revUp xs default k).length := by omega
    have hnext : revUp xs default (k + 1) = swapN (revUp xs default k) k j default := by simp [revUp, hjd, hn]
    have hff : ∀ v ∈ revUp xs default k, v.isAgg = false := by
      intro v hv
      obtain ⟨i, hi, rfl⟩ := List.getElem_of_mem hv
      have := revUp_get xs default k (by omega) i (by omega)
      simp only [List.getD, List.getElem?_eq_getElem hi, Option.getD_some] at this
      rw [this]
      have h1 : i < xs.length := by omega
      have h2 : xs.length - 1 - i < xs.length := by omega
      split
      · simp [h2, hf, -V.isAgg]
      · simp [h1, hf, -V.isAgg]
    obtain ⟨ys, hys⟩ : ∃ z, z = revUp xs default k := ⟨_, rfl⟩
    rw [← hys] at hh hrl hkr hjr hnext hff
    have f1 : ys[k].isAgg = false := hff _ (List.getElem_mem hkr)
    have f2 : ys[j].isAgg = false := hff _ (List.getElem_mem hjr)
    have w1 := i64_succ k (by omega)
    have w2 : IntKind.i64.wrap ((j : Int) - 1) = (j : Int) - 1 := i64_int _ (by omega) (by omega)
    refine WS_cond (t := true) (by simp; omega) (fun _ => ?_) (fun h => by cases h)
    refine WS_skip ?_
    simp
    refine WS_seq (WS_block (WS_regD [] ?_))
    simp [h0, h2, h3, hh, hkn, hjn, hkr, hjr, V.fits, f1, f2, -V.isAgg]
    refine ⟨rfl, ?_⟩
    refine WS_reg [] ?_
    simp [h0, h2, h3, hh, w1, w2, hnext, swapN, List.getD, hkr, hjr]
    refine ⟨⟨k + 1, rfl, by omega, ?_, by omega⟩, by omega⟩
    rw [hnext]
    simp [swapN, List.getD, hkr, hjr]
  · refine WS_cond (t := false) (by simp; omega) (fun h => by cases h) (fun _ => ?_)
    refine WS_exit ?_
    simp [hh]
    exact revUp_all xs default (by omega) (by omega)
end Go.Vw
