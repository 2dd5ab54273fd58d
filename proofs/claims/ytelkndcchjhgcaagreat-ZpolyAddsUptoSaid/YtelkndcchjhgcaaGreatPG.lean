/- Polynomials over the integers: a shift made in place; the plain laws. -/
import Derived.Test.YtelkndcchjhgcaaGreatPD
set_option linter.unusedVariables false
namespace Go.Py

theorem cf_append (a b : List Int) (i : Nat) : cf (a ++ b) i = if i < a.length then cf a i else cf b (i - a.length) := by
  split
  · rename_i h
    rw [cf_lt (by simp; omega), cf_lt h, List.getElem_append_left h]
  · rename_i h
    by_cases hi : i < (a ++ b).length
    · have h2 : i - a.length < b.length := by simp at hi; omega
      rw [cf_lt hi, cf_lt h2, List.getElem_append_right (by omega)]
    · rw [cf_ge (by omega), cf_ge (by simp at hi; omega)]
/-- What a pass leaves is the value of what stands behind. -/
theorem cf_paL_ev (s : Int) : ∀ (l : List Int) (i : Nat), cf (paL s l) i = evL s (l.drop i)
  | [], i => by simp [paL, evL]
  | x :: r, 0 => by
    have ih := cf_paL_ev s r 0
    have h : cf (paL s r) 0 = (paL s r).headD 0 := by cases paL s r <;> simp
    rw [List.drop_zero] at ih
    rw [paL_cons, cf_zero, List.drop_zero, evL, ← ih, h]
  | x :: r, i + 1 => by rw [paL_cons, cf_succ, List.drop_succ_cons]; exact cf_paL_ev s r i

/-- While a pass goes down: from m on it has been. -/
structure ShR (s : Int) (pre suf o : List Int) (m : Nat) : Prop where
  len : o.length = pre.length + suf.length
  val : ∀ j, cf o j = if j < m then cf (pre ++ suf) j else cf (pre ++ paL s suf) j
theorem shR_first {s : Int} {pre suf : List Int} (h : suf ≠ []) : ShR s pre suf (pre ++ suf) (pre.length + suf.length - 1) where
  len := by simp
  val := fun j => by
    have hl := List.length_pos_iff.2 h
    split
    · rfl
    · rename_i hj
      rw [cf_append, cf_append, if_neg (by omega), if_neg (by omega), cf_paL_ev]
      by_cases h1 : j - pre.length < suf.length
      · have h2 := evL_drop s suf (j - pre.length) h1
        rw [h2, show j - pre.length + 1 = suf.length by omega, evL_drop_all]; omega
      · rw [cf_ge (by omega), List.drop_of_length_le (by omega), evL]
theorem shR_step {s : Int} {pre suf o : List Int} {m : Nat} (h : ShR s pre suf o m) (h1 : pre.length < m) (h2 : m < pre.length + suf.length) : ShR s pre suf (o.set (m - 1) (cf o (m - 1) + s * cf o m)) (m - 1) where
  len := by simp [h.len]
  val := fun j => by
    rw [cf_set _ _ _ _ (by rw [h.len]; omega)]
    by_cases hj : j = m - 1
    · subst hj
      rw [if_pos rfl, if_neg (by omega), h.val, h.val, if_pos (by omega), if_neg (by omega), cf_append, cf_append, cf_append, if_neg (by omega), if_neg (by omega), if_neg (by omega), cf_paL_ev, cf_paL_ev]
      have h3 := evL_drop s suf (m - 1 - pre.length) (by omega)
      rw [h3, show m - 1 - pre.length + 1 = m - pre.length by omega]
      grind
    · rw [if_neg hj, h.val]
      by_cases h3 : j < m
      · rw [if_pos h3, if_pos (by omega)]
      · rw [if_neg h3, if_neg (by omega)]
theorem shR_end {s : Int} {pre suf o : List Int} {m : Nat} (h : ShR s pre suf o m) (hm : m ≤ pre.length) : o = pre ++ paL s suf := by
  refine ext_cf (by rw [h.len]; simp [paL_len]) fun j => ?_
  rw [h.val]
  split
  · rw [cf_append, cf_append, if_pos (by omega), if_pos (by omega)]
  · rfl
/-- A pass more. -/
theorem spL_pass {s : Int} {pre suf : List Int} (h : suf ≠ []) : ∃ x r, paL s suf = x :: r ∧ r.length + 1 = suf.length ∧ pre ++ paL s suf = (pre ++ [x]) ++ r ∧ pre ++ spL s suf.length suf = (pre ++ [x]) ++ spL s r.length r := by
  have hl := List.length_pos_iff.2 h
  have hp := paL_len s suf
  cases hq : paL s suf with
  | nil => rw [hq] at hp; simp at hp; omega
  | cons x r =>
    rw [hq] at hp
    have hr : r.length + 1 = suf.length := by simpa using hp
    refine ⟨x, r, rfl, hr, by simp, ?_⟩
    rw [← hr, spL, hq]
    simp
theorem spL_len (s : Int) : ∀ (n : Nat) (l : List Int), l.length = n → (spL s n l).length = n
  | 0, l, h => by rw [spL]; exact h
  | n + 1, l, h => by
    rw [spL, List.length_cons, spL_len s n _ (by rw [List.length_tail, paL_len, h]; rfl)]
theorem spL_last (s : Int) : ∀ (n : Nat) (l : List Int), l.length = n + 1 → cf (spL s (n + 1) l) n = cf l n
  | 0, l, h => by
    rw [spL, cf_zero]
    have h1 : cf (paL s l) 0 = (paL s l).headD 0 := by cases paL s l <;> simp
    rw [← h1, cf_paL_ev, evL_drop s l 0 (by omega), show 0 + 1 = l.length by omega, evL_drop_all]; omega
  | n + 1, l, h => by
    rw [spL, cf_succ, spL_last s n _ (by rw [List.length_tail, paL_len, h]; rfl)]
    have h1 : cf (paL s l).tail n = cf (paL s l) (n + 1) := by cases paL s l <;> simp
    rw [h1, cf_paL_ev, evL_drop s l (n + 1) (by omega), show n + 1 + 1 = l.length by omega, evL_drop_all]; omega
/-- A plain one, shifted in place, is the shifted one, plain. -/
theorem spL_tr (s : Int) {t : List Int} (ht : tr t = t) : spL s t.length t = tr (shL s t) := by
  have e := spL_shL s t.length t rfl
  rw [← tr_of_eqp e]
  cases hn : t.length with
  | zero =>
    have : t = [] := List.length_eq_zero_iff.1 hn
    subst this
    rfl
  | succ n =>
    have hl := spL_last s n t hn
    have hlen := spL_len s (n + 1) t hn
    have hne : tr t ≠ [] := by rw [ht]; intro h0; rw [h0] at hn; simp at hn
    have h1 := tr_last t hne
    rw [ht, hn] at h1
    have := tr_take (l := spL s (n + 1) t) (m := n + 1) (by omega) (fun i hi => cf_ge (by omega)) (.inr (by rw [Nat.add_sub_cancel, hl]; exact h1))
    rw [this, List.take_of_length_le (by omega)]
end Go.Py

