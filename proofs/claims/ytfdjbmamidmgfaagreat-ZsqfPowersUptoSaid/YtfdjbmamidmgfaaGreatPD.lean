/- Polynomials over the integers: the loops' plain laws. -/
import Derived.Test.YtfdjbmamidmgfaaGreatPC
set_option linter.unusedVariables false
namespace Go.Py
theorem cf_take (a : List Int) (n i : Nat) : cf (a.take n) i = if i < n then cf a i else 0 := by
 by_cases h : i < n
 · rw [if_pos h]
   by_cases hi : i < a.length
   · rw [cf_lt (by simp; omega), cf_lt hi]; simp
   · rw [cf_ge (by simp; omega), cf_ge (by omega)]
 · rw [if_neg h, cf_ge (by simp; omega)]
theorem cf_moL_one (n : Nat) (c : Int) (i : Nat) : cf (moL n c) i = if i = n then c else 0 := by
 induction n generalizing i with
 | zero => rw [moL_zero]; cases i <;> simp
 | succ n ih => rw [moL_succ]; cases i with
  | zero => simp
  | succ i => rw [cf_succ, ih]; simp
theorem take_succ_eqp (a : List Int) (i : Nat) : Eqp (a.take (i + 1)) (addL (a.take i) (moL i (cf a i))) := fun j => by
 rw [cf_take, cf_addL, cf_take, cf_moL_one]
 rcases Nat.lt_trichotomy j i with h | h | h
 · rw [if_pos (by omega), if_pos h, if_neg (by omega)]; omega
 · subst h; rw [if_pos (by omega), if_neg (by omega), if_pos rfl]; omega
 · rw [if_neg (by omega), if_neg (by omega), if_neg (by omega)]; rfl
theorem cf_take_mul (a b : List Int) (i j : Nat) : cf (mulL (a.take (i + 1)) b) j = cf (mulL (a.take i) b) j + if i ≤ j then cf a i * cf b (j - i) else 0 := by
 rw [eqp_mulL_left b (take_succ_eqp a i) j, mulL_addL_left _ _ _ j, cf_addL, cf_moL]
theorem take_all (a b : List Int) : Eqp (mulL (a.take a.length) b) (mulL a b) := by rw [List.take_length]; exact Eqp.rfl'
theorem cf_set (l : List Int) (n : Nat) (x : Int) (i : Nat) (hn : n < l.length) : cf (l.set n x) i = if i = n then x else cf l i := by
 by_cases h : i = n
 · subst h
   rw [if_pos rfl, cf_lt (by simpa using hn)]; simp
 · rw [if_neg h]
   by_cases hi : i < l.length
   · rw [cf_lt (by simpa using hi), cf_lt hi, List.getElem_set_ne (by omega)]
   · rw [cf_ge (by simpa using hi), cf_ge (by omega)]
theorem cf_replicate (n i : Nat) : cf (List.replicate n 0) i = 0 := by
 by_cases h : i < n
 · rw [cf_lt (by simpa using h)]; simp
 · rw [cf_ge (by simpa using h)]
theorem ext_cf {a b : List Int} (hl : a.length = b.length) (h : Eqp a b) : a = b := by
 apply List.ext_getElem hl
 intro i h1 h2
 rw [← cf_lt h1, ← cf_lt h2, h i]
theorem cf_range (n : Nat) (f : Nat → Int) (i : Nat) : cf ((List.range n).map f) i = if i < n then f i else 0 := by
 by_cases h : i < n
 · rw [if_pos h, cf_lt (by simpa using h)]; simp
 · rw [if_neg h, cf_ge (by simpa using h)]
theorem deL_range (a : List Int) : Eqp (((List.range a.length).map fun k => cf a k * (k : Int)).drop 1) (deL a) := fun i => by
 have : ∀ (l : List Int), cf (l.drop 1) i = cf l (i + 1) := fun l => by cases l <;> simp
 rw [this, cf_range, cf_deL]
 split
 · have e : ((i + 1 : Nat) : Int) = (i : Int) + 1 := by omega
   rw [e, Int.mul_comm]
 · rw [cf_ge (l := a) (by omega), Int.mul_zero]
def coL (a : List Int) : Int := if cf (tr a) ((tr a).length - 1) < 0 then -(gcL a : Int) else (gcL a : Int)
theorem coL_eqp {a b : List Int} (h : Eqp a b) : coL a = coL b := by rw [coL, coL, tr_of_eqp h, gcL_eqp h]
theorem coL_zero {a : List Int} : coL a = 0 ↔ tr a = [] := by
 rw [← gcL_zero, coL]
 split <;> omega
theorem coL_dvd (a : List Int) (i : Nat) : coL a ∣ cf a i := by
 rw [coL]
 split
 · exact Int.neg_dvd.2 (gcL_dvd a i)
 · exact gcL_dvd a i
def ldL (a : List Int) : Int := cf (tr a) ((tr a).length - 1)
theorem ldL_mul {a b : List Int} (ha : tr a ≠ []) (hb : tr b ≠ []) : ldL (mulL a b) = ldL a * ldL b := by
 have la := List.length_pos_iff.2 ha
 have lb := List.length_pos_iff.2 hb
 rw [ldL, tr_mulL_len ha hb, cf_tr, ldL, ldL]
 have e : Eqp (mulL a b) (mulL (tr a) (tr b)) := (eqp_mulL_left b (cf_tr a).symm).trans (eqp_mulL_right (cf_tr b).symm _)
 have t := (cf_mulL_top (tr a) (tr b) ((tr a).length - 1) ((tr b).length - 1) (fun i hi => cf_ge (by omega)) (fun i hi => cf_ge (by omega))).1
 rw [← t, e, show (tr a).length + (tr b).length - 1 - 1 = (tr a).length - 1 + ((tr b).length - 1) by omega]
theorem coL_mul (a b : List Int) : coL (mulL a b) = coL a * coL b := by
 by_cases ha : tr a = []
 · rw [coL_zero.2 ha, Int.zero_mul, coL_zero, tr_mulL_nil]; exact .inl ha
 · by_cases hb : tr b = []
   · rw [coL_zero.2 hb, Int.mul_zero, coL_zero, tr_mulL_nil]; exact .inr hb
   · have hl := ldL_mul ha hb
     have na := tr_last a ha
     have nb := tr_last b hb
     rw [ldL, ldL, ldL] at hl
     rw [coL, coL, coL, gcL_mulL, hl, Int.natCast_mul]
     obtain ⟨x, hx⟩ : ∃ x, x = cf (tr a) ((tr a).length - 1) := ⟨_, rfl⟩
     obtain ⟨y, hy⟩ : ∃ x, x = cf (tr b) ((tr b).length - 1) := ⟨_, rfl⟩
     rw [← hx, ← hy]
     rw [← hx] at na
     rw [← hy] at nb
     by_cases h1 : x < 0 <;> by_cases h2 : y < 0
     · have := Int.mul_pos_of_neg_of_neg h1 h2
       rw [if_neg (by omega), if_pos h1, if_pos h2, Int.neg_mul_neg]
     · have := Int.mul_neg_of_neg_of_pos h1 (show 0 < y by omega)
       rw [if_pos this, if_pos h1, if_neg h2, Int.neg_mul]
     · have := Int.mul_neg_of_pos_of_neg (show 0 < x by omega) h2
       rw [if_pos this, if_neg h1, if_pos h2, Int.mul_neg]
     · have := Int.mul_pos (show 0 < x by omega) (show 0 < y by omega)
       rw [if_neg (by omega), if_neg h1, if_neg h2]
def ppL (a : List Int) : List Int := (tr a).map (· / coL a)
theorem cf_ppL (a : List Int) (i : Nat) : cf (ppL a) i = cf a i / coL a := by
 rw [ppL, ← cf_tr a i]
 by_cases hi : i < (tr a).length
 · rw [cf_lt (by simpa using hi), cf_lt hi]; simp
 · rw [cf_ge (by simpa using hi), cf_ge (by omega)]; simp
theorem ppL_mul (a : List Int) : Eqp a (scL (coL a) (ppL a)) := fun i => by
 rw [cf_scL, cf_ppL, Int.mul_ediv_cancel' (coL_dvd a i)]
theorem tr_ppL (a : List Int) : tr (ppL a) = ppL a := by
 have h : ∀ l : List Int, (l = [] ∨ cf l (l.length - 1) ≠ 0) → tr l = l := fun l hl => by
  rcases hl with rfl | hl
  · rfl
  · have := tr_take (l := l) (m := l.length) (Nat.le_refl _) (fun i hi => cf_ge hi) (.inr hl)
    rw [this, List.take_length]
 apply h
 by_cases ha : tr a = []
 · left; rw [ppL, ha]; rfl
 · right
   have hl : (ppL a).length = (tr a).length := by simp [ppL]
   rw [hl]
   intro h0
   have h1 := ppL_mul a ((tr a).length - 1)
   rw [cf_scL, h0, Int.mul_zero, ← cf_tr a] at h1
   exact tr_last a ha h1
theorem coL_ppL {a : List Int} (h : tr a ≠ []) : coL (ppL a) = 1 := by
 have hc : coL a ≠ 0 := fun e => h (coL_zero.1 e)
 have e : coL a = coL (scL (coL a) (ppL a)) := coL_eqp (ppL_mul a)
 have e2 : Eqp (scL (coL a) (ppL a)) (mulL [coL a] (ppL a)) := fun i => by
  show _ = cf (addL (scL (coL a) (ppL a)) (0 :: mulL [] (ppL a))) i
  rw [cf_addL, mulL]; cases i <;> simp
 have e3 : coL [coL a] = coL a := by
  have ht : tr [coL a] = [coL a] := by simp [tr, hc]
  rw [coL, ht]
  simp [gcL]
  omega
 rw [coL_eqp e2, coL_mul, e3] at e
 have : coL a * 1 = coL a * coL (ppL a) := by omega
 exact (Int.eq_of_mul_eq_mul_left hc this).symm
end Go.Py
