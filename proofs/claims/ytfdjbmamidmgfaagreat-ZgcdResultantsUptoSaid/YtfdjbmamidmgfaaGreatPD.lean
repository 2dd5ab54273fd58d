/- Polynomials over the integers: the loops' plain laws. -/
import Derived.Test.YtfdjbmamidmgfaaGreatPC
set_option linter.unusedVariables false
namespace Go.Py
theorem cf_take (a : List Int) (n i : Nat) : cf (a.take n) i = if i < n then cf a i else 0 := by
 by_cases h : i < n
 · rw [if_pos h]
   by_cases hi : i < a.length
   · rw [cf_lt (by simp; omega), cf_lt hi]; simp
   · rw [cf_ge (by simp; omega), cf_ge (by omega)]
 · rw [if_neg h, cf_ge (by simp; omega)]
theorem cf_moL_one (n : Nat) (c : Int) (i : Nat) : cf (moL n c) i = if i = n then c else 0 := by
 induction n generalizing i with
 | zero => rw [moL_zero]; cases i <;> simp
 | succ n ih => rw [moL_succ]; cases i with
  | zero => simp
  | succ i => rw [cf_succ, ih]; simp
theorem take_succ_eqp (a : List Int) (i : Nat) : Eqp (a.take (i + 1)) (addL (a.take i) (moL i (cf a i))) := fun j => by
 rw [cf_take, cf_addL, cf_take, cf_moL_one]
 rcases Nat.lt_trichotomy j i with h | h | h
 · rw [if_pos (by omega), if_pos h, if_neg (by omega)]; omega
 · subst h; rw [if_pos (by omega), if_neg (by omega), if_pos rfl]; omega
 · rw [if_neg (by omega), if_neg (by omega), if_neg (by omega)]; rfl
theorem take_all (a b : List Int) : Eqp (mulL (a.take a.length) b) (mulL a b) := by rw [List.take_length]; exact Eqp.rfl'
theorem cf_set (l : List Int) (n : Nat) (x : Int) (i : Nat) (hn : n < l.length) : cf (l.set n x) i = if i = n then x else cf l i := by
 by_cases h : i = n
 · subst h
   rw [if_pos rfl, cf_lt (by simpa using hn)]; simp
 · rw [if_neg h]
   by_cases hi : i < l.length
   · rw [cf_lt (by simpa using hi), cf_lt hi, List.getElem_set_ne (by omega)]
   · rw [cf_ge (by simpa using hi), cf_ge (by omega)]
theorem cf_replicate (n i : Nat) : cf (List.replicate n 0) i = 0 := by
 by_cases h : i < n
 · rw [cf_lt (by simpa using h)]; simp
 · rw [cf_ge (by simpa using h)]
theorem ext_cf {a b : List Int} (hl : a.length = b.length) (h : Eqp a b) : a = b := by
 apply List.ext_getElem hl
 intro i h1 h2
 rw [← cf_lt h1, ← cf_lt h2, h i]
theorem cf_range (n : Nat) (f : Nat → Int) (i : Nat) : cf ((List.range n).map f) i = if i < n then f i else 0 := by
 by_cases h : i < n
 · rw [if_pos h, cf_lt (by simpa using h)]; simp
 · rw [if_neg h, cf_ge (by simpa using h)]
def coL (a : List Int) : Int := if cf (tr a) ((tr a).length - 1) < 0 then -(gcL a : Int) else (gcL a : Int)
theorem coL_eqp {a b : List Int} (h : Eqp a b) : coL a = coL b := by rw [coL, coL, tr_of_eqp h, gcL_eqp h]
theorem coL_zero {a : List Int} : coL a = 0 ↔ tr a = [] := by
 rw [← gcL_zero, coL]
 split <;> omega
theorem coL_dvd (a : List Int) (i : Nat) : coL a ∣ cf a i := by
 rw [coL]
 split
 · exact Int.neg_dvd.2 (gcL_dvd a i)
 · exact gcL_dvd a i
def ldL (a : List Int) : Int := cf (tr a) ((tr a).length - 1)
def ppL (a : List Int) : List Int := (tr a).map (· / coL a)
theorem cf_ppL (a : List Int) (i : Nat) : cf (ppL a) i = cf a i / coL a := by
 rw [ppL, ← cf_tr a i]
 by_cases hi : i < (tr a).length
 · rw [cf_lt (by simpa using hi), cf_lt hi]; simp
 · rw [cf_ge (by simpa using hi), cf_ge (by omega)]; simp
theorem ppL_mul (a : List Int) : Eqp a (scL (coL a) (ppL a)) := fun i => by
 rw [cf_scL, cf_ppL, Int.mul_ediv_cancel' (coL_dvd a i)]
theorem tr_ppL (a : List Int) : tr (ppL a) = ppL a := by
 have h : ∀ l : List Int, (l = [] ∨ cf l (l.length - 1) ≠ 0) → tr l = l := fun l hl => by
  rcases hl with rfl | hl
  · rfl
  · have := tr_take (l := l) (m := l.length) (Nat.le_refl _) (fun i hi => cf_ge hi) (.inr hl)
    rw [this, List.take_length]
 apply h
 by_cases ha : tr a = []
 · left; rw [ppL, ha]; rfl
 · right
   have hl : (ppL a).length = (tr a).length := by simp [ppL]
   rw [hl]
   intro h0
   have h1 := ppL_mul a ((tr a).length - 1)
   rw [cf_scL, h0, Int.mul_zero, ← cf_tr a] at h1
   exact tr_last a ha h1
end Go.Py
