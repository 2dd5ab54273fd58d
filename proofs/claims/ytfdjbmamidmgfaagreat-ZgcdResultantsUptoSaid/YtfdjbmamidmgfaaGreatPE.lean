/- Polynomials over the integers: rests of so many times a polynomial, common divisors; the plain laws. -/
import Derived.Test.YtfdjbmamidmgfaaGreatPD
set_option linter.unusedVariables false
namespace Go.Py
theorem scL_eqp_mul (c : Int) (a : List Int) : Eqp (scL c a) (mulL [c] a) := fun i => by
 show _ = cf (addL (scL c a) (0 :: mulL [] a)) i
 rw [cf_addL, mulL]; cases i <;> simp
theorem tr_scL {c : Int} (hc : c ≠ 0) (a : List Int) : (tr (scL c a)).length = (tr a).length := by
 by_cases ha : tr a = []
 · have : tr (scL c a) = [] := (tr_nil_iff _).2 fun i => by rw [cf_scL, (tr_nil_iff a).1 ha i, Int.mul_zero]
   rw [this, ha]
 · have la := List.length_pos_iff.2 ha
   have h1 := tr_last a ha
   rw [cf_tr] at h1
   have := tr_len_of (l := scL c a) (n := (tr a).length - 1) (by
    rw [cf_scL]
    intro z
    rcases Int.mul_eq_zero.1 z with z | z
    · exact hc z
    · exact h1 z) (fun i hi => by rw [cf_scL, ← cf_tr a i, cf_ge (by omega), Int.mul_zero])
   omega
def Dv (d a : List Int) : Prop := ∃ q, Eqp a (mulL q d)
theorem Dv.eqp {d a b : List Int} (h : Dv d a) (e : Eqp a b) : Dv d b := by
 obtain ⟨q, hq⟩ := h
 exact ⟨q, e.symm.trans hq⟩
theorem Dv.add {d a b : List Int} (h : Dv d a) (g : Dv d b) : Dv d (addL a b) := by
 obtain ⟨q, hq⟩ := h
 obtain ⟨p, hp⟩ := g
 exact ⟨addL q p, (eqp_addL hq hp).trans (mulL_addL_left q p d).symm⟩
theorem Dv.mul {d a : List Int} (h : Dv d a) (c : List Int) : Dv d (mulL c a) := by
 obtain ⟨q, hq⟩ := h
 exact ⟨mulL c q, (eqp_mulL_right hq c).trans (mulL_assoc c q d).symm⟩
theorem Dv.sc {d a : List Int} (h : Dv d a) (c : Int) : Dv d (scL c a) := (h.mul [c]).eqp (scL_eqp_mul c a).symm
theorem Dv.zero {d a : List Int} (h : tr a = []) : Dv d a := ⟨[], fun i => by rw [(tr_nil_iff a).1 h i, mulL]; simp⟩
structure Ps (a b q r : List Int) : Prop where
 eq : Eqp (scL (ldL b ^ ((tr a).length + 1 - (tr b).length)) a) (addL (mulL q b) r)
 lt : (tr r).length < (tr b).length
theorem ldL_ne {b : List Int} (hb : tr b ≠ []) : ldL b ≠ 0 := tr_last b hb
theorem ps_unique {a b q r q' r' : List Int} (h : Ps a b q r) (g : Ps a b q' r') : Eqp q q' ∧ Eqp r r' := by
 have hb : tr b ≠ [] := by intro e; have := h.lt; rw [e] at this; simp at this
 have e : Eqp (mulL (addL q (scL (-1) q')) b) (addL r' (scL (-1) r)) := fun i => by
  have h1 := h.eq i
  have h2 := g.eq i
  rw [h1, cf_addL, cf_addL] at h2
  rw [mulL_addL_left _ _ _ i, cf_addL, cf_addL, cf_scL, mulL_scL _ _ _ i, cf_scL]
  omega
 have hz : tr (addL q (scL (-1) q')) = [] := by
  by_cases hD : tr (addL q (scL (-1) q')) = []
  · exact hD
  · exfalso
    have hl := tr_mulL_len hD hb
    rw [tr_of_eqp e] at hl
    have lD := List.length_pos_iff.2 hD
    have lb := List.length_pos_iff.2 hb
    have hle : (tr (addL r' (scL (-1) r))).length ≤ max (tr r').length (tr r).length := by
     rcases Nat.lt_or_ge (max (tr r').length (tr r).length) (tr (addL r' (scL (-1) r))).length with hlt | hge
     · exfalso
       have hne : tr (addL r' (scL (-1) r)) ≠ [] := fun e => by rw [e] at hlt; simp at hlt
       have h1 := tr_last _ hne
       rw [cf_tr, cf_addL, cf_scL, ← cf_tr r', ← cf_tr r, cf_ge (by omega), cf_ge (by omega)] at h1
       simp at h1
     · exact hge
    have := h.lt
    have := g.lt
    omega
 have hq : Eqp q q' := fun i => by
  have := (tr_nil_iff _).1 hz i
  rw [cf_addL, cf_scL] at this
  omega
 refine ⟨hq, fun i => ?_⟩
 have h1 := h.eq i
 have h2 := g.eq i
 rw [h1, cf_addL, cf_addL, eqp_mulL_left b hq i] at h2
 omega
def psL (b : List Int) : Nat → List Int → List Int × List Int
 | 0, r => ([], r)
 | k + 1, r => let c := cf r (k + (tr b).length - 1) / ldL b
  let z := psL b k (addL r (scL (-c) (mulL (moL k 1) b)))
  (addL z.1 (moL k c), z.2)
theorem moL_sc (k : Nat) (c : Int) (b : List Int) : Eqp (mulL (moL k c) b) (scL c (mulL (moL k 1) b)) := fun i => by
 rw [cf_moL, cf_scL, cf_moL]; split <;> simp
theorem psL_ok {b : List Int} (hb : tr b ≠ []) : ∀ (k : Nat) (r s : List Int), Eqp r (scL (ldL b ^ k) s) → (∀ i, k + (tr b).length - 1 ≤ i → cf r i = 0) → Eqp r (addL (mulL (psL b k r).1 b) (psL b k r).2) ∧ (tr (psL b k r).2).length < (tr b).length
 | 0, r, s, hr, hz => by
  have lb := List.length_pos_iff.2 hb
  refine ⟨fun i => ?_, ?_⟩
  · rw [psL, cf_addL, mulL]; simp
  · rw [psL]
    rcases Nat.lt_or_ge (tr r).length (tr b).length with h | h
    · exact h
    · exfalso
      have hn : tr r ≠ [] := fun e => by rw [e, List.length_nil] at h; omega
      have h1 := tr_last r hn
      rw [cf_tr] at h1
      exact h1 (hz _ (by omega))
 | k + 1, r, s, hr, hz => by
  have lb := List.length_pos_iff.2 hb
  have hl := ldL_ne hb
  obtain ⟨l, hle⟩ : ∃ l, l = ldL b := ⟨_, rfl⟩
  obtain ⟨t, ht⟩ : ∃ t, t = cf s (k + (tr b).length - 1) := ⟨_, rfl⟩
  have htop : cf r (k + (tr b).length - 1) = l ^ (k + 1) * t := by rw [hr, cf_scL, ← hle, ht]
  have hc : cf r (k + (tr b).length - 1) / ldL b = l ^ k * t := by
   rw [htop, ← hle, Int.pow_succ, show l ^ k * l * t = l * (l ^ k * t) by grind, Int.mul_ediv_cancel_left _ (by rw [hle]; exact hl)]
  obtain ⟨r', hr'⟩ : ∃ r', r' = addL r (scL (-(cf r (k + (tr b).length - 1) / ldL b)) (mulL (moL k 1) b)) := ⟨_, rfl⟩
  have h1 : Eqp r' (scL (ldL b ^ k) (addL (scL l s) (scL (-t) (mulL (moL k 1) b)))) := fun i => by
   rw [hr', cf_addL, cf_scL, hc, cf_scL, cf_addL, cf_scL, cf_scL, hr i, cf_scL, ← hle, Int.pow_succ]; grind
  have h2 : ∀ i, k + (tr b).length - 1 ≤ i → cf r' i = 0 := fun i hi => by
   rw [hr', cf_addL, cf_scL, hc, cf_moL, if_pos (by omega)]
   rcases Nat.lt_or_ge (k + (tr b).length - 1) i with h3 | h3
   · have hb0 : cf b (i - k) = 0 := by rw [← cf_tr b]; exact cf_ge (by omega)
     rw [hz i (by omega), hb0]; simp
   · obtain rfl : i = k + (tr b).length - 1 := by omega
     rw [htop, show k + (tr b).length - 1 - k = (tr b).length - 1 by omega]
     have : cf b ((tr b).length - 1) = l := by rw [hle, ldL, cf_tr]
     rw [this, Int.pow_succ]; grind
  obtain ⟨i1, i2⟩ := psL_ok hb k r' _ h1 h2
  have e1 : (psL b (k + 1) r).1 = addL (psL b k r').1 (moL k (cf r (k + (tr b).length - 1) / ldL b)) := by rw [psL, hr']
  have e2 : (psL b (k + 1) r).2 = (psL b k r').2 := by rw [psL, hr']
  rw [e1, e2]
  refine ⟨fun i => ?_, i2⟩
  have h3 := i1 i
  rw [cf_addL, hr', cf_addL, cf_scL] at h3
  rw [cf_addL, mulL_addL_left _ _ _ i, cf_addL, moL_sc _ _ _ i, cf_scL, ← hr'] at *
  grind
def psD (a b : List Int) : List Int × List Int := psL b ((tr a).length + 1 - (tr b).length) (scL (ldL b ^ ((tr a).length + 1 - (tr b).length)) a)
theorem psD_ok {a b : List Int} (hb : tr b ≠ []) : Ps a b (psD a b).1 (psD a b).2 := by
 have lb := List.length_pos_iff.2 hb
 obtain ⟨h1, h2⟩ := psL_ok hb ((tr a).length + 1 - (tr b).length) (scL (ldL b ^ ((tr a).length + 1 - (tr b).length)) a) a Eqp.rfl' (fun i hi => by
  rw [cf_scL, ← cf_tr a i, cf_ge (by omega), Int.mul_zero])
 exact ⟨h1, h2⟩
def gdL (x y : List Int) : List Int := if h : tr y = [] then x else gdL y (ppL (psD x y).2)
termination_by (tr y).length
decreasing_by
 rw [tr_ppL, ppL, List.length_map]
 exact (psD_ok h).lt
theorem gdL_nil {x y : List Int} (h : tr y = []) : gdL x y = x := by unfold gdL; rw [dif_pos h]
theorem gdL_step {x y : List Int} (h : tr y ≠ []) : gdL x y = gdL y (ppL (psD x y).2) := by rw [gdL, dif_neg h]
end Go.Py
