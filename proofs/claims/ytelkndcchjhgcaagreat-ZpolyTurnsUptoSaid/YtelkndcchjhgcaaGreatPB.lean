/- Polynomials over the integers: shifts, contents, quotients; the plain laws. -/
import Derived.Test.YtelkndcchjhgcaaGreatPA
set_option linter.unusedVariables false
namespace Go.Py

/-- The polynomial at a place that is so much farther. -/
def shL (s : Int) : List Int → List Int
  | [] => []
  | c :: a => addL (mulL (shL s a) [s, 1]) [c]
theorem shL_zeros (s : Int) {a : List Int} (h : ∀ i, cf a i = 0) : ∀ i, cf (shL s a) i = 0 := by
  induction a with
  | nil => intro i; simp [shL]
  | cons c a ih =>
    have hc : c = 0 := by simpa using h 0
    have hr := ih (fun i => by simpa using h (i + 1))
    intro i
    rw [shL, cf_addL, mulL_zeros hr, hc]
    cases i <;> simp
theorem shL_eqp (s : Int) : ∀ {a b : List Int}, Eqp a b → Eqp (shL s a) (shL s b)
  | [], b, h => fun i => by rw [shL_zeros s (a := b) (fun i => by rw [← h i]; simp)]; simp [shL]
  | c :: a, [], h => fun i => by rw [shL_zeros s (a := c :: a) (fun i => by rw [h i]; simp)]; simp [shL]
  | c :: a, d :: b, h => by
    obtain ⟨rfl, ht⟩ := eqp_tail h
    rw [shL, shL]
    exact eqp_addL (eqp_mulL_left _ (shL_eqp s ht)) Eqp.rfl'
theorem cf_one (c : Int) (i : Nat) : cf [c] i = if i = 0 then c else 0 := by cases i <;> simp
theorem shL_addL (s : Int) : ∀ a b : List Int, Eqp (shL s (addL a b)) (addL (shL s a) (shL s b))
  | [], b => by rw [addL, shL, addL]; exact Eqp.rfl'
  | c :: a, [] => fun i => by rw [cf_addL]; simp [addL, shL]
  | c :: a, d :: b => fun i => by
    rw [addL, shL, cf_addL, eqp_mulL_left _ (shL_addL s a b) i, mulL_addL_left _ _ _ i, cf_addL, cf_addL, shL, shL, cf_addL, cf_addL, cf_one, cf_one, cf_one]
    split <;> omega
theorem shL_scL (s c : Int) (a : List Int) : Eqp (shL s (scL c a)) (scL c (shL s a)) := by
  induction a with
  | nil => exact Eqp.rfl'
  | cons x a ih =>
    intro i
    show cf (addL (mulL (shL s (scL c a)) [s, 1]) [c * x]) i = _
    rw [cf_addL, eqp_mulL_left _ ih i, mulL_scL _ _ _ i, cf_scL, cf_scL, shL, cf_addL, cf_one, cf_one]
    split <;> grind
theorem shL_zero (s : Int) (a : List Int) : Eqp (shL s (0 :: a)) (mulL (shL s a) [s, 1]) := fun i => by
  rw [shL, cf_addL, cf_one]; split <;> omega
theorem shL_mulL (s : Int) (a b : List Int) : Eqp (shL s (mulL a b)) (mulL (shL s a) (shL s b)) := by
  induction a with
  | nil => exact Eqp.rfl'
  | cons x a ih =>
    have h1 : Eqp (shL s (mulL (x :: a) b)) (addL (scL x (shL s b)) (mulL (mulL (shL s a) (shL s b)) [s, 1])) := by
      show Eqp (shL s (addL (scL x b) (0 :: mulL a b))) _
      exact (shL_addL s _ _).trans (eqp_addL (shL_scL s x b) ((shL_zero s _).trans (eqp_mulL_left _ ih)))
    have h2 : Eqp (mulL (shL s (x :: a)) (shL s b)) (addL (mulL (mulL (shL s a) [s, 1]) (shL s b)) (mulL [x] (shL s b))) := by
      rw [shL]; exact mulL_addL_left _ _ _
    have h3 : Eqp (mulL [x] (shL s b)) (scL x (shL s b)) := fun i => by
      show cf (addL (scL x (shL s b)) (0 :: mulL [] (shL s b))) i = _
      rw [cf_addL, mulL]; cases i <;> simp
    have h4 : Eqp (mulL (mulL (shL s a) [s, 1]) (shL s b)) (mulL (mulL (shL s a) (shL s b)) [s, 1]) :=
      (mulL_assoc _ _ _).trans ((eqp_mulL_right (mulL_comm _ _) _).trans (mulL_assoc _ _ _).symm)
    exact h1.trans (Eqp.trans (fun i => by rw [cf_addL, cf_addL, h4 i, h3 i]; omega) h2.symm)
/-- One pass in place: each coefficient takes so many times the one behind it. -/
def paL (s : Int) : List Int → List Int
  | [] => []
  | [x] => [x]
  | x :: y :: r => (x + s * (paL s (y :: r)).headD 0) :: paL s (y :: r)
theorem paL_len (s : Int) : ∀ l : List Int, (paL s l).length = l.length
  | [] => rfl
  | [x] => rfl
  | x :: y :: r => by rw [paL, List.length_cons, paL_len s (y :: r)]; rfl
theorem paL_cons (s x : Int) (r : List Int) : paL s (x :: r) = (x + s * (paL s r).headD 0) :: paL s r := by
  cases r with
  | nil => simp [paL]
  | cons y r => rfl
/-- What is left behind the first coefficient is the quotient by X - s. -/
theorem paL_div (s : Int) : ∀ l : List Int, Eqp l (addL [(paL s l).headD 0] (mulL [-s, 1] (paL s l).tail))
  | [] => fun i => by simp [paL, addL, mulL, scL]; cases i <;> simp; rename_i n; cases n <;> simp
  | x :: r => fun i => by
    rw [paL_cons, List.headD_cons, List.tail_cons, cf_addL]
    have ih := paL_div s r
    cases i with
    | zero =>
      rw [cf_mulL_zero, cf_zero, cf_zero]
      have : cf (paL s r) 0 = (paL s r).headD 0 := by cases paL s r <;> simp
      rw [this]; grind
    | succ i =>
      rw [cf_succ, cf_succ, cf_mulL_succ, cf_nil, ih i, cf_addL]
      have e1 : cf (mulL [1] (paL s r)) i = cf (paL s r) i := by
        show cf (addL (scL 1 (paL s r)) (0 :: mulL [] (paL s r))) i = _
        rw [cf_addL, cf_scL, mulL]; cases i <;> simp
      rw [e1]
      cases h : paL s r with
      | nil => cases i with
        | zero => rw [List.headD_nil, List.tail_nil, cf_mulL_zero]; simp
        | succ i => rw [List.tail_nil, mulL_nil]; simp
      | cons y t =>
        rw [List.headD_cons, List.tail_cons]
        cases i with
        | zero => rw [cf_mulL_zero, cf_zero, cf_zero, cf_succ]; omega
        | succ i =>
          rw [cf_mulL_succ, cf_succ, cf_succ, cf_succ, cf_nil]
          have e2 : cf (mulL [1] t) i = cf t i := by
            show cf (addL (scL 1 t) (0 :: mulL [] t)) i = _
            rw [cf_addL, cf_scL, mulL]; cases i <;> simp
          rw [e2]
/-- All passes. -/
def spL (s : Int) : Nat → List Int → List Int
  | 0, l => l
  | n + 1, l => (paL s l).headD 0 :: spL s n (paL s l).tail
theorem spL_shL (s : Int) : ∀ (n : Nat) (l : List Int), l.length = n → Eqp (spL s n l) (shL s l)
  | 0, l, h => by rw [List.length_eq_zero_iff.1 h]; exact Eqp.rfl'
  | n + 1, l, h => by
    have hl : ((paL s l).tail).length = n := by rw [List.length_tail, paL_len, h]; rfl
    have ih := spL_shL s n _ hl
    have hd := shL_eqp s (paL_div s l)
    have h1 : Eqp (shL s [-s, 1]) [0, 1] := fun i => by
      simp [shL, mulL, addL, scL]
      match i with
      | 0 => simp; omega
      | 1 => simp
      | i + 2 => simp
    obtain ⟨q, hq⟩ : ∃ q, q = (paL s l).tail := ⟨_, rfl⟩
    obtain ⟨c, hc⟩ : ∃ q, q = (paL s l).headD 0 := ⟨_, rfl⟩
    rw [← hq, ← hc] at hd
    rw [← hq] at ih
    rw [spL, ← hq, ← hc]
    intro i
    rw [hd i, shL_addL _ _ _ i, cf_addL, shL_mulL _ _ _ i, eqp_mulL_left _ h1 i]
    have h2 : Eqp (mulL [0, 1] (shL s q)) (0 :: shL s q) := (mulL_shift [1] _).trans (eqp_cons (fun i => by
      show cf (addL (scL 1 (shL s q)) (0 :: mulL [] (shL s q))) i = _
      rw [cf_addL, cf_scL, mulL]; cases i <;> simp))
    rw [h2 i]
    have h3 : cf (shL s [c]) i = cf [c] i := by simp [shL, mulL, addL]
    rw [h3]
    cases i with
    | zero => simp
    | succ i => simp; exact ih i

/-- What all coefficients have in common. -/
def gcL : List Int → Nat
  | [] => 0
  | x :: a => Nat.gcd x.natAbs (gcL a)
theorem gcL_dvd : ∀ (a : List Int) (i : Nat), ((gcL a : Nat) : Int) ∣ cf a i
  | [], i => by simp
  | x :: a, 0 => by rw [cf_zero, gcL]; exact Int.ofNat_dvd_left.2 (Nat.gcd_dvd_left _ _)
  | x :: a, i + 1 => by rw [cf_succ, gcL]; exact Int.dvd_trans (Int.natCast_dvd_natCast.2 (Nat.gcd_dvd_right _ _)) (gcL_dvd a i)
theorem dvd_gcL {d : Nat} : ∀ {a : List Int}, (∀ i, (d : Int) ∣ cf a i) → d ∣ gcL a
  | [], _ => Nat.dvd_zero d
  | x :: a, h => by
    rw [gcL]
    exact Nat.dvd_gcd (Int.ofNat_dvd_left.1 (by simpa using h 0)) (dvd_gcL fun i => by simpa using h (i + 1))
theorem gcL_eqp {a b : List Int} (h : Eqp a b) : gcL a = gcL b :=
  Nat.dvd_antisymm (dvd_gcL fun i => by rw [← h i]; exact gcL_dvd a i) (dvd_gcL fun i => by rw [h i]; exact gcL_dvd b i)
theorem gcL_zero {a : List Int} : gcL a = 0 ↔ tr a = [] := by
  constructor
  · intro h
    refine (tr_nil_iff a).2 fun i => ?_
    have := gcL_dvd a i
    rw [h] at this
    exact Int.zero_dvd.1 this
  · intro h
    have := dvd_gcL (d := 0) (a := a) fun i => by rw [(tr_nil_iff a).1 h i]; simp
    exact Nat.eq_zero_of_zero_dvd this

/-- The quotient, if there is one. -/
theorem div_step {a b q : List Int} {n : Nat} (hb : tr b ≠ []) (h : Eqp a (mulL q b)) (hz : ∀ i, n + (tr b).length ≤ i → cf a i = 0) : cf a (n + (tr b).length - 1) = cf q n * cf (tr b) ((tr b).length - 1) ∧ ∀ i, n < i → cf q i = 0 := by
  have lb := List.length_pos_iff.2 hb
  have e : Eqp a (mulL q (tr b)) := h.trans (eqp_mulL_right (cf_tr b).symm q)
  have hq : ∀ i, n < i → cf q i = 0 := by
    by_cases hq0 : tr q = []
    · intro i _; exact (tr_nil_iff q).1 hq0 i
    · have lq := List.length_pos_iff.2 hq0
      have e2 : Eqp a (mulL (tr q) (tr b)) := e.trans (eqp_mulL_left _ (cf_tr q).symm)
      have t := (cf_mulL_top (tr q) (tr b) ((tr q).length - 1) ((tr b).length - 1) (fun i hi => cf_ge (by omega)) (fun i hi => cf_ge (by omega))).1
      rcases Nat.lt_or_ge n ((tr q).length - 1) with hlt | hge
      · exfalso
        have z := hz ((tr q).length - 1 + ((tr b).length - 1)) (by omega)
        rw [e2, t] at z
        rcases Int.mul_eq_zero.1 z with z | z
        · exact tr_last q hq0 z
        · exact tr_last b hb z
      · intro i hi
        rw [← cf_tr q i]
        exact cf_ge (by omega)
  refine ⟨?_, hq⟩
  have t := (cf_mulL_top q (tr b) n ((tr b).length - 1) hq (fun i hi => cf_ge (by omega))).1
  rw [show n + (tr b).length - 1 = n + ((tr b).length - 1) by omega, e, t]
end Go.Py

