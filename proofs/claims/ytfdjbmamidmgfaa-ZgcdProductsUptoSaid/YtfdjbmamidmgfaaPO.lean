/- The resultant: what it is, and when it is nothing. -/
import Derived.Test.YtfdjbmamidmgfaaPN
set_option linter.unusedVariables false
namespace Go.Dt
open Go.Py

theorem sg_pm (j : Nat) : sg j = 1 ∨ sg j = -1 := by unfold sg; split <;> simp
theorem sg_ne (j : Nat) : sg j ≠ 0 := by rcases sg_pm j with h | h <;> rw [h] <;> decide
theorem sg_odd (x y : Nat) : sg (x * y) = if x % 2 = 1 ∧ y % 2 = 1 then -1 else 1 := by
  have e : (x * y) % 2 = (x % 2) * (y % 2) % 2 := Nat.mul_mod x y 2
  unfold sg
  rcases Nat.mod_two_eq_zero_or_one x with h | h <;> rcases Nat.mod_two_eq_zero_or_one y with h2 | h2 <;> rw [h, h2] at e <;> simp [e, h, h2]

def Su (a b : List Int) : Rat := Sub (po a) (po b) (a.length - 1) (b.length - 1) 0 0
/-- THE RESULTANT. -/
def rsZ (a b : List Int) : Int := if tr a = [] ∨ tr b = [] then 0 else (Su (tr a) (tr b)).num
theorem su_int (a b : List Int) : ∃ z : Int, Su a b = (z : Rat) := sub_int a b _ _ 0 0
theorem su_num (a b : List Int) : (((Su a b).num : Int) : Rat) = Su a b := by
  obtain ⟨z, hz⟩ := su_int a b
  rw [hz]; rfl
theorem rsZ_nil {a b : List Int} (h : tr a = [] ∨ tr b = []) : rsZ a b = 0 := by rw [rsZ, if_pos h]
theorem rsZ_cast {a b : List Int} (ha : tr a ≠ []) (hb : tr b ≠ []) : ((rsZ a b : Int) : Rat) = Su (tr a) (tr b) := by
  rw [rsZ, if_neg (by simp [ha, hb]), su_num]
theorem rsZ_eqp {a b a' b' : List Int} (h : Eqp a a') (g : Eqp b b') : rsZ a b = rsZ a' b' := by rw [rsZ, rsZ, tr_of_eqp h, tr_of_eqp g]
theorem po_scale (a : List Int) (c : Int) (b : List Int) (h : ∀ t, cf a t = c * cf b t) : po a = fun e => (c : Rat) * po b e := by
  funext e; unfold po; rw [h]; push_cast; rfl
theorem su_swap (a b : List Int) : Su b a = sg ((a.length - 1) * (b.length - 1)) * Su a b := by
  have h := sub_swap (po a) (po b) (a.length - 1) (b.length - 1) 0 0
  rw [Nat.sub_zero, Nat.sub_zero, Nat.mul_comm] at h
  exact h
theorem su_left (a b c : List Int) (x : Int) (hl : a.length = c.length) (h : ∀ t, cf a t = x * cf c t) : Su a b = (x : Rat) ^ (b.length - 1) * Su c b := by
  have e := sub_scale_left (po c) (po b) (x : Rat) (c.length - 1) (b.length - 1) 0 0
  rw [Su, po_scale a x c h, hl, e, Nat.sub_zero]; rfl
theorem su_right (a b c : List Int) (x : Int) (hl : b.length = c.length) (h : ∀ t, cf b t = x * cf c t) : Su a b = (x : Rat) ^ (a.length - 1) * Su a c := by
  have e := sub_scale (po a) (po c) (x : Rat) (a.length - 1) (c.length - 1) 0 0
  rw [Su, po_scale b x c h, hl, e, Nat.sub_zero]; rfl
theorem ppL_eqp' {a b : List Int} (h : Eqp a b) : ppL a = ppL b := by rw [ppL, ppL, tr_of_eqp h, coL_eqp h]
theorem ppL_len' (a : List Int) : (ppL a).length = (tr a).length := by simp [ppL]
/-- The contents taken out. -/
theorem su_pp (a b : List Int) : Su (tr a) (tr b) = (coL a : Rat) ^ ((tr b).length - 1) * (coL b : Rat) ^ ((tr a).length - 1) * Su (ppL a) (ppL b) := by
  rw [su_left (tr a) (tr b) (ppL a) (coL a) (ppL_len' a).symm fun t => by rw [cf_tr, ppL_mul a t, cf_scL]]
  rw [su_right (ppL a) (tr b) (ppL b) (coL b) (ppL_len' b).symm fun t => by rw [cf_tr, ppL_mul b t, cf_scL]]
  rw [ppL_len', Rat.mul_assoc]
theorem rsZ_pp {a b : List Int} (ha : tr a ≠ []) (hb : tr b ≠ []) : rsZ a b = coL a ^ ((tr b).length - 1) * coL b ^ ((tr a).length - 1) * (Su (ppL a) (ppL b)).num := by
  refine cast_inj ?_
  rw [rsZ_cast ha hb, su_pp]
  push_cast
  rw [su_num]

theorem su_const {a b : List Int} (tb : tr b = b) (hb : b.length = 1) : Su a b = ((ldL b : Int) : Rat) ^ (a.length - 1) := by
  rcases Nat.lt_or_ge 1 a.length with h | h
  · have h1 := sub_deg (A := po a) (B := po b) (m := a.length - 1) (n := b.length - 1) 0 po_top (by omega)
    have e1 := ldL_po tb
    rw [hb] at h1 e1
    simp only [Nat.sub_self, Nat.sub_zero] at h1 e1
    rw [Su, hb, Nat.sub_self, h1, e1]
    obtain ⟨c, hc⟩ : ∃ c, a.length - 1 = c + 1 := ⟨a.length - 2, by omega⟩
    rw [hc, Nat.add_sub_cancel, Rat.pow_succ]
  · rw [Su, hb, show a.length - 1 = 0 by omega, Rat.pow_zero]
    rfl
theorem su_step {a b : List Int} (ta : tr a = a) (tb : tr b = b) (hb : 2 ≤ b.length) (hab : b.length ≤ a.length) : Su a b = 0 ↔ tr (psD a b).2 = [] ∨ Su b (ppL (psD a b).2) = 0 := by
  obtain ⟨f, hf, hR⟩ := ps_rows ta tb (by omega) hab
  have hb0 : tr b ≠ [] := by rw [tb]; exact List.length_pos_iff.1 (by omega)
  have l0 : ((ldL b : Int) : Rat) ≠ 0 := fun h => ldL_ne hb0 (cast_zero.1 h)
  have hlt := (psD_ok (a := a) (b := b) hb0).lt
  rw [tb] at hlt
  by_cases h0 : tr (psD a b).2 = []
  · refine ⟨fun _ => .inl h0, fun _ => ?_⟩
    have z : po (tr (psD a b).2) = fun _ => 0 := by funext e; rw [h0]; exact po_ge (by simp)
    rw [z] at hR
    exact sub_zero (A := po a) (B := po b) (m := a.length - 1) (n := b.length - 1) (j := 0) 0 hR hf (by omega) (by omega) (pow_ne l0 _)
  · have hr := List.length_pos_iff.2 h0
    obtain ⟨r, hrr⟩ : ∃ r, r = tr (psD a b).2 := ⟨_, rfl⟩
    have hpp : ppL (psD a b).2 = ppL r := by rw [hrr]; exact (ppL_eqp' (cf_tr _)).symm
    rw [hpp, ← hrr]
    rw [← hrr] at hr hR h0 hlt
    have tr' : tr r = r := by rw [hrr, tr_tr]
    have h1 := sub_step (A := po a) (B := po b) (m := a.length - 1) (n := b.length - 1) (k := r.length - 1) (j := 0) 0 po_top (fun e he => po_ge (by omega)) hR hf (by omega) (by omega) (by omega)
    rw [ldL_po tb] at h1
    have h2 : Sub (po b) (po r) (b.length - 1) (r.length - 1) 0 0 = (coL r : Rat) ^ (b.length - 1) * Su b (ppL r) := by
      have := su_right b r (ppL r) (coL r) (by rw [ppL_len', tr']) fun t => by rw [ppL_mul r t, cf_scL]
      exact this
    rw [h2] at h1
    have c0 : (coL r : Rat) ≠ 0 := fun h => h0 (by rw [← tr']; exact coL_zero.1 (cast_zero.1 h))
    have p1 := pow_ne (pow_ne l0 (a.length - 1 - (b.length - 1) + 1)) (b.length - 1 - 0)
    have p2 := sg_ne ((b.length - 1 - 0) * (a.length - 1 - 0))
    have p3 := pow_ne l0 (a.length - 1 - (r.length - 1))
    have p4 := pow_ne c0 (b.length - 1)
    constructor
    · intro hz
      rw [show Sub (po a) (po b) (a.length - 1) (b.length - 1) 0 0 = Su a b from rfl, hz] at h1
      refine .inr ?_
      rcases Rat.mul_eq_zero.1 (h1.symm.trans (by grind)) with e | e
      · exact absurd e p2
      · rcases Rat.mul_eq_zero.1 e with e | e
        · exact absurd e p3
        · rcases Rat.mul_eq_zero.1 e with e | e
          · exact absurd e p4
          · exact e
    · rintro (hz | hz)
      · exact absurd hz h0
      · rw [hz] at h1
        rcases Rat.mul_eq_zero.1 (h1.trans (by grind)) with e | e
        · exact absurd e p1
        · exact e
/-- NOUGHT JUST WHERE THERE IS A COMMON DIVISOR, the second one not the longer one. -/
theorem su_gd : ∀ (n : Nat) (a b : List Int), b.length ≤ n → tr a = a → tr b = b → 1 ≤ b.length → b.length ≤ a.length → (Su a b = 0 ↔ 1 < (gdL a b).length)
  | 0, a, b, hn, _, _, h1, _ => by omega
  | n + 1, a, b, hn, ta, tb, h1, hab => by
    have hb0 : tr b ≠ [] := by rw [tb]; exact List.length_pos_iff.1 (by omega)
    have hlt := (psD_ok (a := a) (b := b) hb0).lt
    rw [tb] at hlt
    have tp : tr (ppL (psD a b).2) = ppL (psD a b).2 := tr_ppL _
    rw [gdL_step hb0]
    by_cases hb1 : b.length = 1
    · have h0 : ppL (psD a b).2 = [] := List.eq_nil_of_length_eq_zero (by rw [ppL_len']; omega)
      rw [h0, gdL_nil rfl, su_const tb hb1, hb1]
      have := pow_ne (fun h => ldL_ne hb0 (cast_zero.1 h)) (L := ((ldL b : Int) : Rat)) (a.length - 1)
      simp [this]
    · rw [su_step ta tb (by omega) hab]
      by_cases h0 : tr (psD a b).2 = []
      · have h1 : ppL (psD a b).2 = [] := List.eq_nil_of_length_eq_zero (by rw [ppL_len', h0]; rfl)
        rw [h1, gdL_nil rfl]
        simp only [h0, true_or, true_iff]
        omega
      · have hr := List.length_pos_iff.2 h0
        have ih := su_gd n b (ppL (psD a b).2) (by rw [ppL_len']; omega) tb tp (by rw [ppL_len']; omega) (by rw [ppL_len']; omega)
        rw [← ih]
        simp [h0]
theorem gdL_short {a b : List Int} (ta : tr a = a) (hb : tr b ≠ []) (ca : coL a = 1) (hab : a.length < (tr b).length) : gdL a b = gdL b a := by
  rw [gdL_step hb]
  have h1 := psD_ok (a := a) (b := b) hb
  have e : psD a b = psL b 0 (scL (ldL b ^ 0) a) := by
    unfold psD
    rw [show (tr a).length + 1 - (tr b).length = 0 by rw [ta]; omega]
  have e2 : (psL b 0 (scL (ldL b ^ 0) a)).2 = scL (ldL b ^ 0) a := rfl
  rw [e, e2, Int.pow_zero]
  have e3 : ppL (scL 1 a) = ppL a := ppL_eqp' (scL_one a)
  have e4 : ppL a = a := by
    rw [ppL, ca, ta]
    conv => rhs; rw [← List.map_id a]
    refine List.map_congr_left fun x _ => ?_
    simp
  rw [e3, e4]
theorem rsZ_gd {a b : List Int} (ha : tr a ≠ []) (hb : tr b ≠ []) : rsZ a b = 0 ↔ 1 < (tr (gdZ a b)).length := by
  have la := List.length_pos_iff.2 ha
  have lb := List.length_pos_iff.2 hb
  have ca : (coL a : Int) ≠ 0 := fun h => ha (coL_zero.1 h)
  have cb : (coL b : Int) ≠ 0 := fun h => hb (coL_zero.1 h)
  have e1 : rsZ a b = 0 ↔ Su (ppL a) (ppL b) = 0 := by
    rw [rsZ_pp ha hb]
    constructor
    · intro h
      have h2 : (Su (ppL a) (ppL b)).num = 0 := by
        rcases Int.mul_eq_zero.1 h with h | h
        · exact absurd h (Int.mul_ne_zero (Int.pow_ne_zero ca) (Int.pow_ne_zero cb))
        · exact h
      rw [← su_num, h2]; rfl
    · intro h; rw [h]; simp
  have hg0 : (Nat.gcd (gcL a) (gcL b) : Int) ≠ 0 := fun h => by
    have : Nat.gcd (gcL a) (gcL b) = 0 := by omega
    exact ha (gd_zero.1 this).1
  have e2 : (tr (gdZ a b)).length = (tr (gdL (ppL a) (ppL b))).length := by rw [gdZ, tr_scL hg0]
  have pa : (ppL a).length = (tr a).length := ppL_len' a
  have pb : (ppL b).length = (tr b).length := ppL_len' b
  have ta := tr_ppL a
  have tb := tr_ppL b
  rw [e1, e2]
  have e3 : ∀ x y : List Int, tr x = x → tr y = y → tr (gdL x y) = gdL x y := by
    have : ∀ (n : Nat) (x y : List Int), y.length ≤ n → tr x = x → tr y = y → tr (gdL x y) = gdL x y := by
      intro n
      induction n with
      | zero => intro x y hy tx ty; rw [gdL_nil (by rw [ty]; exact List.eq_nil_of_length_eq_zero (by omega))]; exact tx
      | succ n ih =>
        intro x y hy tx ty
        by_cases h0 : y = []
        · rw [gdL_nil (by rw [ty]; exact h0)]; exact tx
        · have hy0 : tr y ≠ [] := by rw [ty]; exact h0
          have hlt := (psD_ok (a := x) (b := y) hy0).lt
          rw [ty] at hlt
          rw [gdL_step hy0]
          exact ih _ _ (by rw [ppL_len']; omega) ty (tr_ppL _)
    exact fun x y => this _ x y (Nat.le_refl _)
  rw [e3 _ _ ta tb]
  rcases Nat.lt_or_ge (ppL a).length (ppL b).length with h | h
  · rw [gdL_short ta (by rw [tb]; exact List.length_pos_iff.1 (by omega)) (coL_ppL ha) (by rw [tb]; exact h)]
    rw [← su_gd _ (ppL b) (ppL a) (Nat.le_refl _) tb ta (by omega) (by omega), su_swap (ppL b) (ppL a)]
    constructor
    · intro h
      rcases Rat.mul_eq_zero.1 h with h | h
      · exact absurd h (sg_ne _)
      · exact h
    · intro h; rw [h]; grind
  · exact su_gd _ (ppL a) (ppL b) (Nat.le_refl _) ta tb (by omega) h
end Go.Dt

