/- Polynomials over the integers: shifts, contents, quotients; the plain laws. -/
import Derived.Test.YtfdjbmamidmgfaaGreatPA
set_option linter.unusedVariables false
namespace Go.Py
def gcL : List Int → Nat
 | [] => 0
 | x :: a => Nat.gcd x.natAbs (gcL a)
theorem gcL_dvd : ∀ (a : List Int) (i : Nat), ((gcL a : Nat) : Int) ∣ cf a i
 | [], i => by simp
 | x :: a, 0 => by rw [cf_zero, gcL]; exact Int.ofNat_dvd_left.2 (Nat.gcd_dvd_left _ _)
 | x :: a, i + 1 => by rw [cf_succ, gcL]; exact Int.dvd_trans (Int.natCast_dvd_natCast.2 (Nat.gcd_dvd_right _ _)) (gcL_dvd a i)
theorem dvd_gcL {d : Nat} : ∀ {a : List Int}, (∀ i, (d : Int) ∣ cf a i) → d ∣ gcL a
 | [], _ => Nat.dvd_zero d
 | x :: a, h => by
  rw [gcL]
  exact Nat.dvd_gcd (Int.ofNat_dvd_left.1 (by simpa using h 0)) (dvd_gcL fun i => by simpa using h (i + 1))
theorem gcL_eqp {a b : List Int} (h : Eqp a b) : gcL a = gcL b :=
 Nat.dvd_antisymm (dvd_gcL fun i => by rw [← h i]; exact gcL_dvd a i) (dvd_gcL fun i => by rw [h i]; exact gcL_dvd b i)
theorem gcL_scL (c : Int) (a : List Int) : gcL (scL c a) = c.natAbs * gcL a := by
 induction a with
 | nil => simp [scL, gcL]
 | cons x a ih =>
  show Nat.gcd (c * x).natAbs (gcL (scL c a)) = _
  rw [ih, Int.natAbs_mul, Nat.gcd_mul_left, gcL]
theorem gcL_zero {a : List Int} : gcL a = 0 ↔ tr a = [] := by
 constructor
 · intro h
   refine (tr_nil_iff a).2 fun i => ?_
   have := gcL_dvd a i
   rw [h] at this
   exact Int.zero_dvd.1 this
 · intro h
   have := dvd_gcL (d := 0) (a := a) fun i => by rw [(tr_nil_iff a).1 h i]; simp
   exact Nat.eq_zero_of_zero_dvd this
structure Prm (p : Nat) : Prop where
 two : 1 < p
 mul : ∀ x y : Int, (p : Int) ∣ x * y → (p : Int) ∣ x ∨ (p : Int) ∣ y
theorem prm_ex : ∀ (n : Nat), 1 < n → ∃ p, Prm p ∧ p ∣ n := by
 intro n
 induction n using Nat.strongRecOn with
 | _ n ih =>
  intro h
  by_cases hd : ∃ d, 1 < d ∧ d < n ∧ d ∣ n
  · obtain ⟨d, h1, h2, h3⟩ := hd
    obtain ⟨p, hp, hpd⟩ := ih d h2 h1
    exact ⟨p, hp, Nat.dvd_trans hpd h3⟩
  · refine ⟨n, ⟨h, fun x y hxy => ?_⟩, Nat.dvd_refl n⟩
    rw [Int.ofNat_dvd_left, Int.natAbs_mul] at hxy
    rw [Int.ofNat_dvd_left, Int.ofNat_dvd_left]
    have hg : Nat.gcd n x.natAbs = 1 ∨ Nat.gcd n x.natAbs = n := by
     have g1 := Nat.gcd_dvd_left n x.natAbs
     have g2 := Nat.le_of_dvd (by omega) g1
     have g3 : Nat.gcd n x.natAbs ≠ 0 := fun e => by rw [e] at g1; have := Nat.eq_zero_of_zero_dvd g1; omega
     rcases Nat.lt_or_ge (Nat.gcd n x.natAbs) 2 with g | g
     · left; omega
     · right
       rcases Nat.lt_or_ge (Nat.gcd n x.natAbs) n with g' | g'
       · exact absurd ⟨_, g, g', g1⟩ hd
       · omega
    rcases hg with hg | hg
    · right; exact Nat.Coprime.dvd_of_dvd_mul_left hg hxy
    · left; rw [← hg]; exact Nat.gcd_dvd_right _ _
theorem prm_mulL {p : Nat} (hp : Prm p) : ∀ (a b : List Int), (∀ i, (p : Int) ∣ cf (mulL a b) i) → (∀ i, (p : Int) ∣ cf a i) ∨ ∀ i, (p : Int) ∣ cf b i
 | [], b, h => .inl fun i => by simp
 | x :: a, b, h => by
  by_cases hx : (p : Int) ∣ x
  · have h2 : ∀ i, (p : Int) ∣ cf (mulL a b) i := fun i => by
     have h3 := h (i + 1)
     rw [cf_mulL_succ] at h3
     exact (Int.dvd_add_right (Int.dvd_mul_of_dvd_left hx)).1 h3
    rcases prm_mulL hp a b h2 with h3 | h3
    · left
      intro i
      cases i with
      | zero => simpa using hx
      | succ i => simpa using h3 i
    · exact .inr h3
  · right
    clear prm_mulL
    induction b with
    | nil => intro i; simp
    | cons y b ih =>
     have hy : (p : Int) ∣ y := by
      have h0 := h 0
      rw [cf_mulL_zero, cf_zero] at h0
      rcases hp.mul _ _ h0 with h1 | h1
      · exact absurd h1 hx
      · exact h1
     have h2 : ∀ i, (p : Int) ∣ cf (mulL (x :: a) b) i := fun i => by
      have h3 := h (i + 1)
      rw [mulL_cons _ _ _ (i + 1), cf_addL, cf_scL, cf_succ] at h3
      exact (Int.dvd_add_right (Int.dvd_mul_of_dvd_left hy)).1 h3
     have ih := ih h2
     intro i
     cases i with
     | zero => simpa using hy
     | succ i => simpa using ih i
theorem gcL_split {a : List Int} (h : gcL a ≠ 0) : ∃ b, Eqp a (scL (gcL a : Int) b) ∧ gcL b = 1 := by
 refine ⟨a.map (· / (gcL a : Int)), ?_, ?_⟩
 · intro i
   rw [cf_scL]
   have hm : cf (a.map (· / (gcL a : Int))) i = cf a i / (gcL a : Int) := by
    by_cases hi : i < a.length
    · rw [cf_lt (by simpa using hi), cf_lt hi]; simp
    · rw [cf_ge (by simpa using hi), cf_ge (by omega)]; simp
   rw [hm, Int.mul_ediv_cancel' (gcL_dvd a i)]
 · have e : Eqp a (scL (gcL a : Int) (a.map (· / (gcL a : Int)))) := by
    intro i
    rw [cf_scL]
    have hm : cf (a.map (· / (gcL a : Int))) i = cf a i / (gcL a : Int) := by
     by_cases hi : i < a.length
     · rw [cf_lt (by simpa using hi), cf_lt hi]; simp
     · rw [cf_ge (by simpa using hi), cf_ge (by omega)]; simp
    rw [hm, Int.mul_ediv_cancel' (gcL_dvd a i)]
   have e2 := gcL_eqp e
   rw [gcL_scL, Int.natAbs_natCast] at e2
   exact Nat.eq_of_mul_eq_mul_left (show 0 < gcL a by omega) (by omega)
theorem gcL_mulL (a b : List Int) : gcL (mulL a b) = gcL a * gcL b := by
 by_cases ha : gcL a = 0
 · rw [ha, Nat.zero_mul, gcL_zero, tr_mulL_nil]; exact .inl (gcL_zero.1 ha)
 · by_cases hb : gcL b = 0
   · rw [hb, Nat.mul_zero, gcL_zero, tr_mulL_nil]; exact .inr (gcL_zero.1 hb)
   · obtain ⟨a', ea, pa⟩ := gcL_split ha
     obtain ⟨b', eb, pb⟩ := gcL_split hb
     have h1 : gcL (mulL a' b') = 1 := by
      rcases Nat.lt_trichotomy (gcL (mulL a' b')) 1 with h | h | h
      · have h0 : gcL (mulL a' b') = 0 := by omega
        rcases tr_mulL_nil.1 (gcL_zero.1 h0) with h | h
        · rw [gcL_zero.2 h] at pa; omega
        · rw [gcL_zero.2 h] at pb; omega
      · exact h
      · obtain ⟨p, hp, hd⟩ := prm_ex _ h
        rcases prm_mulL hp a' b' (fun i => Int.dvd_trans (Int.natCast_dvd_natCast.2 hd) (gcL_dvd _ i)) with h | h
        · have := dvd_gcL h; rw [pa] at this; have := Nat.le_of_dvd (by omega) this; have := hp.two; omega
        · have := dvd_gcL h; rw [pb] at this; have := Nat.le_of_dvd (by omega) this; have := hp.two; omega
     have e : Eqp (mulL a b) (scL (gcL a : Int) (scL (gcL b : Int) (mulL a' b'))) :=
      (eqp_mulL_left b ea).trans ((mulL_scL _ _ _).trans (eqp_scL _ ((eqp_mulL_right eb _).trans ((mulL_comm _ _).trans ((mulL_scL _ _ _).trans (eqp_scL _ (mulL_comm _ _)))))))
     rw [gcL_eqp e, gcL_scL, gcL_scL, h1]; simp
theorem div_step {a b q : List Int} {n : Nat} (hb : tr b ≠ []) (h : Eqp a (mulL q b)) (hz : ∀ i, n + (tr b).length ≤ i → cf a i = 0) : cf a (n + (tr b).length - 1) = cf q n * cf (tr b) ((tr b).length - 1) ∧ ∀ i, n < i → cf q i = 0 := by
 have lb := List.length_pos_iff.2 hb
 have e : Eqp a (mulL q (tr b)) := h.trans (eqp_mulL_right (cf_tr b).symm q)
 have hq : ∀ i, n < i → cf q i = 0 := by
  by_cases hq0 : tr q = []
  · intro i _; exact (tr_nil_iff q).1 hq0 i
  · have lq := List.length_pos_iff.2 hq0
    have e2 : Eqp a (mulL (tr q) (tr b)) := e.trans (eqp_mulL_left _ (cf_tr q).symm)
    have t := (cf_mulL_top (tr q) (tr b) ((tr q).length - 1) ((tr b).length - 1) (fun i hi => cf_ge (by omega)) (fun i hi => cf_ge (by omega))).1
    rcases Nat.lt_or_ge n ((tr q).length - 1) with hlt | hge
    · exfalso
      have z := hz ((tr q).length - 1 + ((tr b).length - 1)) (by omega)
      rw [e2, t] at z
      rcases Int.mul_eq_zero.1 z with z | z
      · exact tr_last q hq0 z
      · exact tr_last b hb z
    · intro i hi
      rw [← cf_tr q i]
      exact cf_ge (by omega)
 refine ⟨?_, hq⟩
 have t := (cf_mulL_top q (tr b) n ((tr b).length - 1) hq (fun i hi => cf_ge (by omega))).1
 rw [show n + (tr b).length - 1 = n + ((tr b).length - 1) by omega, e, t]
end Go.Py
