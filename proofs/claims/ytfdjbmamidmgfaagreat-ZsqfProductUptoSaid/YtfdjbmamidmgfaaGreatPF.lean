/- Polynomials over the integers: the greatest common divisor; the plain laws. -/
import Derived.Test.YtfdjbmamidmgfaaGreatPE
set_option linter.unusedVariables false
namespace Go.Py
theorem dv_len {d a : List Int} (h : Dv d a) (ha : tr a ≠ []) : tr d ≠ [] ∧ (tr d).length ≤ (tr a).length := by
 obtain ⟨q, hq⟩ := h
 have hd : tr d ≠ [] := fun e => ha ((tr_of_eqp hq).trans (tr_mulL_nil.2 (.inr e)))
 have hq0 : tr q ≠ [] := fun e => ha ((tr_of_eqp hq).trans (tr_mulL_nil.2 (.inl e)))
 have := tr_mulL_len hq0 hd
 rw [← tr_of_eqp hq] at this
 have := List.length_pos_iff.2 hq0
 exact ⟨hd, by omega⟩
theorem ldL_eqp {a b : List Int} (h : Eqp a b) : ldL a = ldL b := by rw [ldL, ldL, tr_of_eqp h]
theorem ldL_sc {c : Int} (hc : c ≠ 0) (a : List Int) : ldL (scL c a) = c * ldL a := by
 rw [ldL, tr_scL hc, cf_tr, cf_scL, ldL, cf_tr]
theorem dv_both {a b : List Int} (h : Dv a b) (g : Dv b a) (ha : tr a ≠ []) : Eqp b a ∨ Eqp b (scL (-1) a) := by
 obtain ⟨q, hq⟩ := h
 obtain ⟨p, hp⟩ := g
 have hb : tr b ≠ [] := (dv_len ⟨p, hp⟩ ha).1
 have hq0 : tr q ≠ [] := fun e => hb ((tr_of_eqp hq).trans (tr_mulL_nil.2 (.inl e)))
 have hp0 : tr p ≠ [] := fun e => ha ((tr_of_eqp hp).trans (tr_mulL_nil.2 (.inl e)))
 have l1 := tr_mulL_len hq0 ha
 rw [← tr_of_eqp hq] at l1
 have l2 := tr_mulL_len hp0 hb
 rw [← tr_of_eqp hp] at l2
 have lq := List.length_pos_iff.2 hq0
 have lp := List.length_pos_iff.2 hp0
 have la := List.length_pos_iff.2 ha
 have m1 := ldL_mul hq0 ha
 rw [← ldL_eqp hq] at m1
 have m2 := ldL_mul hp0 hb
 rw [← ldL_eqp hp, m1] at m2
 have hla := ldL_ne ha
 have hu : ldL p * ldL q = 1 := by
  have : (ldL p * ldL q) * ldL a = 1 * ldL a := by rw [Int.one_mul, Int.mul_assoc]; exact m2.symm
  exact Int.eq_of_mul_eq_mul_right hla this
 have hqc : Eqp q [ldL q] := by
  have h1 : (tr q).length = 1 := by omega
  intro i
  rw [← cf_tr q i, ldL, h1]
  cases i with
  | zero => simp
  | succ i => rw [cf_ge (by omega)]; simp
 have hb2 : Eqp b (scL (ldL q) a) := hq.trans ((eqp_mulL_left a hqc).trans (scL_eqp_mul _ a).symm)
 have hq1 : ldL q = 1 ∨ ldL q = -1 := by
  have h := congrArg Int.natAbs hu
  rw [Int.natAbs_mul] at h
  have h2 : (ldL q).natAbs ∣ 1 := ⟨(ldL p).natAbs, by rw [Nat.mul_comm]; exact h.symm⟩
  have := Nat.dvd_one.1 h2
  omega
 rcases hq1 with h1 | h1
 · rw [h1] at hb2; exact .inl (hb2.trans (scL_one a))
 · rw [h1] at hb2; exact .inr hb2
def gdZ (a b : List Int) : List Int := scL (Nat.gcd (gcL a) (gcL b) : Int) (gdL (ppL a) (ppL b))
theorem pp_cases (a : List Int) : tr (ppL a) = [] ∨ coL (ppL a) = 1 := by
 by_cases h : tr a = []
 · left; rw [tr_ppL, ppL, h]; rfl
 · exact .inr (coL_ppL h)
theorem pp_nil {a : List Int} : tr (ppL a) = [] ↔ tr a = [] := by
 rw [tr_ppL, ppL, List.map_eq_nil_iff]
theorem dv_pp {d a : List Int} (hd : gcL d = 1) (h : Dv d a) : Dv d (ppL a) := by
 by_cases ha : tr a = []
 · exact Dv.zero (pp_nil.2 ha)
 · exact dv_prim hd (fun e => ha (coL_zero.1 e)) (h.eqp (ppL_mul a))
theorem gcL_one {a : List Int} (h : coL a = 1) : gcL a = 1 := by
 rw [coL] at h
 split at h <;> omega
theorem ldL_pos {a : List Int} (h : coL a = 1) : 0 < ldL a := by
 have ha : tr a ≠ [] := fun e => by rw [coL_zero.2 e] at h; omega
 have h0 := ldL_ne ha
 rw [coL] at h
 rw [ldL] at h0 ⊢
 split at h <;> omega
theorem gd_zero {a b : List Int} : Nat.gcd (gcL a) (gcL b) = 0 ↔ tr a = [] ∧ tr b = [] := by
 rw [Nat.gcd_eq_zero_iff, gcL_zero, gcL_zero]
theorem gdZ_nil {a b : List Int} (h : tr a = [] ∧ tr b = []) : tr (gdZ a b) = [] :=
 (tr_nil_iff _).2 fun i => by rw [gdZ, cf_scL, gd_zero.2 h]; simp
theorem gdL_co {a b : List Int} (h : ¬ (tr a = [] ∧ tr b = [])) : coL (gdL (ppL a) (ppL b)) = 1 := by
 rcases gdL_prim _ (ppL a) (ppL b) (Nat.le_refl _) (pp_cases a) (pp_cases b) with h1 | h1
 · exact absurd ⟨pp_nil.1 h1.1, pp_nil.1 h1.2⟩ h
 · exact h1
theorem gdZ_pos {a b : List Int} (h : ¬ (tr a = [] ∧ tr b = [])) : 0 < ldL (gdZ a b) := by
 have hc := gdL_co h
 have h0 : Nat.gcd (gcL a) (gcL b) ≠ 0 := fun e => h (gd_zero.1 e)
 rw [gdZ, ldL_sc (by omega)]
 exact Int.mul_pos (by omega) (ldL_pos hc)
theorem gdZ_left {a b : List Int} : Dv (gdZ a b) a ∧ Dv (gdZ a b) b := by
 by_cases h : tr a = [] ∧ tr b = []
 · exact ⟨Dv.zero h.1, Dv.zero h.2⟩
 · have hc := gdL_co h
   obtain ⟨h1, h2⟩ := (gdL_dv (gdL (ppL a) (ppL b)) (gcL_one hc) _ (ppL a) (ppL b) (Nat.le_refl _)).2 (Dv.refl' _)
   have key : ∀ x : List Int, Nat.gcd (gcL a) (gcL b) ∣ gcL x → Dv (gdL (ppL a) (ppL b)) (ppL x) → Dv (gdZ a b) x := by
    intro x hx hd
    have hx2 : (Nat.gcd (gcL a) (gcL b) : Int) ∣ coL x := by
     rw [coL]
     split
     · exact Int.dvd_neg.2 (Int.natCast_dvd_natCast.2 hx)
     · exact Int.natCast_dvd_natCast.2 hx
    obtain ⟨m, hm⟩ := hx2
    obtain ⟨q, hq⟩ := hd
    refine ⟨scL m q, fun i => ?_⟩
    obtain ⟨G, hG⟩ : ∃ G, G = gdL (ppL a) (ppL b) := ⟨_, rfl⟩
    obtain ⟨c, hcc⟩ : ∃ c : Int, c = (Nat.gcd (gcL a) (gcL b) : Int) := ⟨_, rfl⟩
    have h5 : cf (mulL q (scL c G)) i = c * cf (mulL q G) i := by rw [mulL_comm q _ i, mulL_scL _ _ _ i, cf_scL, mulL_comm G q i]
    rw [ppL_mul x i, cf_scL, hq i, mulL_scL _ _ _ i, cf_scL, gdZ, hm, ← hG, ← hcc, h5]
    grind
   exact ⟨key a (Nat.gcd_dvd_left _ _) h1, key b (Nat.gcd_dvd_right _ _) h2⟩
theorem gdZ_all {a b d : List Int} (h1 : Dv d a) (h2 : Dv d b) : Dv d (gdZ a b) := by
 by_cases h : tr a = [] ∧ tr b = []
 · exact Dv.zero (gdZ_nil h)
 · have hd : tr d ≠ [] := by
    by_cases ha : tr a = []
    · exact (dv_len h2 (fun e => h ⟨ha, e⟩)).1
    · exact (dv_len h1 ha).1
   have pd := gcL_pp hd
   have e1 : Dv (ppL d) d := ⟨[coL d], (ppL_mul d).trans (scL_eqp_mul _ _)⟩
   have h3 := (gdL_dv (ppL d) pd _ (ppL a) (ppL b) (Nat.le_refl _)).1 ⟨dv_pp pd (e1.trans' h1), dv_pp pd (e1.trans' h2)⟩
   have hg : ∀ x, Dv d x → gcL d ∣ gcL x := by
    rintro x ⟨q, hq⟩
    rw [gcL_eqp hq, gcL_mulL]
    exact Nat.dvd_mul_left _ _
   obtain ⟨m, hm⟩ := Nat.dvd_gcd (hg a h1) (hg b h2)
   obtain ⟨q, hq⟩ := h3
   have hcd : ∃ e : Int, (e = 1 ∨ e = -1) ∧ (gcL d : Int) = e * coL d := by
    rw [coL]
    split
    · exact ⟨-1, .inr rfl, by omega⟩
    · exact ⟨1, .inl rfl, by omega⟩
   obtain ⟨e, -, he⟩ := hcd
   refine ⟨scL (m * e) q, fun i => ?_⟩
   have h5 : cf (mulL q d) i = coL d * cf (mulL q (ppL d)) i := by rw [mulL_comm q d i, eqp_mulL_left q (ppL_mul d) i, mulL_scL _ _ _ i, cf_scL, mulL_comm (ppL d) q i]
   rw [gdZ, cf_scL, hq i, mulL_scL _ _ _ i, cf_scL, h5, hm, Int.natCast_mul, he]
   grind
theorem gdZ_is {a b g : List Int} (hg : 0 < ldL g) (h1 : Dv g a) (h2 : Dv g b) (h3 : ∀ d, Dv d a → Dv d b → Dv d g) : Eqp (gdZ a b) g := by
 have g0 : tr g ≠ [] := fun e => by rw [ldL, e] at hg; simp at hg
 rcases dv_both (gdZ_all h1 h2) (h3 _ gdZ_left.1 gdZ_left.2) g0 with h | h
 · exact h
 · exfalso
   have e := ldL_eqp h
   rw [ldL_sc (by omega)] at e
   by_cases hz : tr a = [] ∧ tr b = []
   · have := dv_len (h3 _ gdZ_left.1 gdZ_left.2) g0
     exact this.1 (gdZ_nil hz)
   · have := gdZ_pos hz
     omega
end Go.Py
