/- The resultant: what it is, and when it is nothing. -/
import Derived.Test.YtfdjbmamidmgfaaGreatPN
set_option linter.unusedVariables false
namespace Go.Dt
open Go.Py
theorem sg_odd (x y : Nat) : sg (x * y) = if x % 2 = 1 ∧ y % 2 = 1 then -1 else 1 := by
 have e : (x * y) % 2 = (x % 2) * (y % 2) % 2 := Nat.mul_mod x y 2
 unfold sg
 rcases Nat.mod_two_eq_zero_or_one x with h | h <;> rcases Nat.mod_two_eq_zero_or_one y with h2 | h2 <;> rw [h, h2] at e <;> simp [e, h, h2]
def Su (a b : List Int) : Rat := Sub (po a) (po b) (a.length - 1) (b.length - 1) 0 0
def rsZ (a b : List Int) : Int := if tr a = [] ∨ tr b = [] then 0 else (Su (tr a) (tr b)).num
theorem su_int (a b : List Int) : ∃ z : Int, Su a b = (z : Rat) := sub_int a b _ _ 0 0
theorem su_num (a b : List Int) : (((Su a b).num : Int) : Rat) = Su a b := by
 obtain ⟨z, hz⟩ := su_int a b
 rw [hz]; rfl
theorem rsZ_nil {a b : List Int} (h : tr a = [] ∨ tr b = []) : rsZ a b = 0 := by rw [rsZ, if_pos h]
theorem rsZ_cast {a b : List Int} (ha : tr a ≠ []) (hb : tr b ≠ []) : ((rsZ a b : Int) : Rat) = Su (tr a) (tr b) := by
 rw [rsZ, if_neg (by simp [ha, hb]), su_num]
theorem po_scale (a : List Int) (c : Int) (b : List Int) (h : ∀ t, cf a t = c * cf b t) : po a = fun e => (c : Rat) * po b e := by
 funext e; unfold po; rw [h]; push_cast; rfl
theorem su_swap (a b : List Int) : Su b a = sg ((a.length - 1) * (b.length - 1)) * Su a b := by
 have h := sub_swap (po a) (po b) (a.length - 1) (b.length - 1) 0 0
 rw [Nat.sub_zero, Nat.sub_zero, Nat.mul_comm] at h
 exact h
theorem su_left (a b c : List Int) (x : Int) (hl : a.length = c.length) (h : ∀ t, cf a t = x * cf c t) : Su a b = (x : Rat) ^ (b.length - 1) * Su c b := by
 have e := sub_scale_left (po c) (po b) (x : Rat) (c.length - 1) (b.length - 1) 0 0
 rw [Su, po_scale a x c h, hl, e, Nat.sub_zero]; rfl
theorem su_right (a b c : List Int) (x : Int) (hl : b.length = c.length) (h : ∀ t, cf b t = x * cf c t) : Su a b = (x : Rat) ^ (a.length - 1) * Su a c := by
 have e := sub_scale (po a) (po c) (x : Rat) (a.length - 1) (c.length - 1) 0 0
 rw [Su, po_scale b x c h, hl, e, Nat.sub_zero]; rfl
theorem ppL_eqp' {a b : List Int} (h : Eqp a b) : ppL a = ppL b := by rw [ppL, ppL, tr_of_eqp h, coL_eqp h]
theorem ppL_len' (a : List Int) : (ppL a).length = (tr a).length := by simp [ppL]
theorem su_pp (a b : List Int) : Su (tr a) (tr b) = (coL a : Rat) ^ ((tr b).length - 1) * (coL b : Rat) ^ ((tr a).length - 1) * Su (ppL a) (ppL b) := by
 rw [su_left (tr a) (tr b) (ppL a) (coL a) (ppL_len' a).symm fun t => by rw [cf_tr, ppL_mul a t, cf_scL]]
 rw [su_right (ppL a) (tr b) (ppL b) (coL b) (ppL_len' b).symm fun t => by rw [cf_tr, ppL_mul b t, cf_scL]]
 rw [ppL_len', Rat.mul_assoc]
theorem rsZ_pp {a b : List Int} (ha : tr a ≠ []) (hb : tr b ≠ []) : rsZ a b = coL a ^ ((tr b).length - 1) * coL b ^ ((tr a).length - 1) * (Su (ppL a) (ppL b)).num := by
 refine cast_inj ?_
 rw [rsZ_cast ha hb, su_pp]
 push_cast
 rw [su_num]
theorem su_const {a b : List Int} (tb : tr b = b) (hb : b.length = 1) : Su a b = ((ldL b : Int) : Rat) ^ (a.length - 1) := by
 rcases Nat.lt_or_ge 1 a.length with h | h
 · have h1 := sub_deg (A := po a) (B := po b) (m := a.length - 1) (n := b.length - 1) 0 po_top (by omega)
   have e1 := ldL_po tb
   rw [hb] at h1 e1
   simp only [Nat.sub_self, Nat.sub_zero] at h1 e1
   rw [Su, hb, Nat.sub_self, h1, e1]
   obtain ⟨c, hc⟩ : ∃ c, a.length - 1 = c + 1 := ⟨a.length - 2, by omega⟩
   rw [hc, Nat.add_sub_cancel, Rat.pow_succ]
 · rw [Su, hb, show a.length - 1 = 0 by omega, Rat.pow_zero]
   rfl
end Go.Dt
