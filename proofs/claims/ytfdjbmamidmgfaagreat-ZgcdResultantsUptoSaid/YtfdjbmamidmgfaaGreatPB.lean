/- Polynomials over the integers: shifts, contents, quotients; the plain laws. -/
import Derived.Test.YtfdjbmamidmgfaaGreatPA
set_option linter.unusedVariables false
namespace Go.Py
def gcL : List Int → Nat
 | [] => 0
 | x :: a => Nat.gcd x.natAbs (gcL a)
theorem gcL_dvd : ∀ (a : List Int) (i : Nat), ((gcL a : Nat) : Int) ∣ cf a i
 | [], i => by simp
 | x :: a, 0 => by rw [cf_zero, gcL]; exact Int.ofNat_dvd_left.2 (Nat.gcd_dvd_left _ _)
 | x :: a, i + 1 => by rw [cf_succ, gcL]; exact Int.dvd_trans (Int.natCast_dvd_natCast.2 (Nat.gcd_dvd_right _ _)) (gcL_dvd a i)
theorem dvd_gcL {d : Nat} : ∀ {a : List Int}, (∀ i, (d : Int) ∣ cf a i) → d ∣ gcL a
 | [], _ => Nat.dvd_zero d
 | x :: a, h => by
  rw [gcL]
  exact Nat.dvd_gcd (Int.ofNat_dvd_left.1 (by simpa using h 0)) (dvd_gcL fun i => by simpa using h (i + 1))
theorem gcL_eqp {a b : List Int} (h : Eqp a b) : gcL a = gcL b :=
 Nat.dvd_antisymm (dvd_gcL fun i => by rw [← h i]; exact gcL_dvd a i) (dvd_gcL fun i => by rw [h i]; exact gcL_dvd b i)
theorem gcL_zero {a : List Int} : gcL a = 0 ↔ tr a = [] := by
 constructor
 · intro h
   refine (tr_nil_iff a).2 fun i => ?_
   have := gcL_dvd a i
   rw [h] at this
   exact Int.zero_dvd.1 this
 · intro h
   have := dvd_gcL (d := 0) (a := a) fun i => by rw [(tr_nil_iff a).1 h i]; simp
   exact Nat.eq_zero_of_zero_dvd this
theorem div_step {a b q : List Int} {n : Nat} (hb : tr b ≠ []) (h : Eqp a (mulL q b)) (hz : ∀ i, n + (tr b).length ≤ i → cf a i = 0) : cf a (n + (tr b).length - 1) = cf q n * cf (tr b) ((tr b).length - 1) ∧ ∀ i, n < i → cf q i = 0 := by
 have lb := List.length_pos_iff.2 hb
 have e : Eqp a (mulL q (tr b)) := h.trans (eqp_mulL_right (cf_tr b).symm q)
 have hq : ∀ i, n < i → cf q i = 0 := by
  by_cases hq0 : tr q = []
  · intro i _; exact (tr_nil_iff q).1 hq0 i
  · have lq := List.length_pos_iff.2 hq0
    have e2 : Eqp a (mulL (tr q) (tr b)) := e.trans (eqp_mulL_left _ (cf_tr q).symm)
    have t := (cf_mulL_top (tr q) (tr b) ((tr q).length - 1) ((tr b).length - 1) (fun i hi => cf_ge (by omega)) (fun i hi => cf_ge (by omega))).1
    rcases Nat.lt_or_ge n ((tr q).length - 1) with hlt | hge
    · exfalso
      have z := hz ((tr q).length - 1 + ((tr b).length - 1)) (by omega)
      rw [e2, t] at z
      rcases Int.mul_eq_zero.1 z with z | z
      · exact tr_last q hq0 z
      · exact tr_last b hb z
    · intro i hi
      rw [← cf_tr q i]
      exact cf_ge (by omega)
 refine ⟨?_, hq⟩
 have t := (cf_mulL_top q (tr b) n ((tr b).length - 1) hq (fun i hi => cf_ge (by omega))).1
 rw [show n + (tr b).length - 1 = n + ((tr b).length - 1) by omega, e, t]
end Go.Py
