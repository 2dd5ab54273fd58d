/- Squarefree parts: Yun's way, in plain polynomials. -/
import Derived.Test.YtfdjbmamidmgfaaGreatPF
set_option linter.unusedVariables false
namespace Go.Py
theorem zero_of_ev : ∀ (a : List Int) (N : Int), (∀ x, N ≤ x → evL x a = 0) → ∀ i, cf a i = 0
 | [], N, h, i => by simp
 | c :: a, N, h, i => by
  have hc : c = 0 := by
   have h1 := h (N.natAbs + c.natAbs + 1 : Nat) (by omega)
   rw [evL] at h1
   have h2 : (((N.natAbs + c.natAbs + 1 : Nat) : Int)) ∣ c := ⟨-(evL (N.natAbs + c.natAbs + 1 : Nat) a), by grind⟩
   have h3 := Int.natAbs_dvd_natAbs.2 h2
   rcases Nat.eq_zero_or_pos c.natAbs with h4 | h4
   · omega
   · have := Nat.le_of_dvd h4 h3
     rw [Int.natAbs_natCast] at this
     omega
  have ht := zero_of_ev a (N.natAbs + 1 : Nat) fun x hx => by
   have h1 := h x (by omega)
   rw [evL, hc, Int.zero_add] at h1
   rcases Int.mul_eq_zero.1 h1 with h2 | h2
   · omega
   · exact h2
  cases i with
  | zero => simpa using hc
  | succ i => simpa using ht i
theorem eqp_ev {a b : List Int} (h : ∀ x, evL x a = evL x b) : Eqp a b := fun i => by
 have := zero_of_ev (addL a (scL (-1) b)) 0 (fun x _ => by rw [evL_addL, evL_scL, h x]; omega) i
 rw [cf_addL, cf_scL] at this
 omega
theorem ev_de (x : Int) (a b : List Int) : evL x (deL (mulL a b)) = evL x (deL a) * evL x b + evL x a * evL x (deL b) := by
 rw [evL_eqp x (deL_mulL a b), evL_addL, evL_mulL, evL_mulL]
theorem ev_de_congr {a b : List Int} (h : ∀ x, evL x a = evL x b) (x : Int) : evL x (deL a) = evL x (deL b) := evL_eqp x (deL_eqp (eqp_ev h))
theorem ev_one (x : Int) : evL x [1] = 1 := by simp [evL]
theorem dv_ev {d a q : List Int} (h : ∀ x, evL x a = evL x q * evL x d) : Dv d a := ⟨q, eqp_ev fun x => by rw [h, evL_mulL]⟩
theorem ev_dv {d a : List Int} (h : Dv d a) : ∃ q, ∀ x, evL x a = evL x q * evL x d := by
 obtain ⟨q, hq⟩ := h
 exact ⟨q, fun x => by rw [evL_eqp x hq, evL_mulL]⟩
def Cop (a b : List Int) : Prop := ∃ (s t : List Int) (k : Int), k ≠ 0 ∧ ∀ x, evL x s * evL x a + evL x t * evL x b = k
theorem Cop.symm {a b : List Int} (h : Cop a b) : Cop b a := by
 obtain ⟨s, t, k, hk, e⟩ := h
 exact ⟨t, s, k, hk, fun x => by have := e x; grind⟩
theorem Cop.ev {a b a' b' : List Int} (h : Cop a b) (ha : ∀ x, evL x a = evL x a') (hb : ∀ x, evL x b = evL x b') : Cop a' b' := by
 obtain ⟨s, t, k, hk, e⟩ := h
 exact ⟨s, t, k, hk, fun x => by rw [← ha, ← hb]; exact e x⟩
theorem Cop.mul {a b c : List Int} (h : Cop a b) (g : Cop a c) : Cop a (mulL b c) := by
 obtain ⟨s, t, k, hk, e⟩ := h
 obtain ⟨s', t', k', hk', e'⟩ := g
 refine ⟨addL (mulL (mulL s s') a) (addL (mulL (mulL s t') c) (mulL (mulL t b) s')), mulL t t', k * k', Int.mul_ne_zero hk hk', fun x => ?_⟩
 have h1 := e x
 have h2 := e' x
 simp only [evL_addL, evL_mulL]
 rw [← h1, ← h2]
 grind
theorem Cop.dvd {a b d q : List Int} (h : Cop a b) (hd : ∀ x, evL x b = evL x q * evL x d) : Cop a d := by
 obtain ⟨s, t, k, hk, e⟩ := h
 exact ⟨s, mulL t q, k, hk, fun x => by rw [evL_mulL, ← e x, hd]; grind⟩
theorem Cop.dvdl {a b d q : List Int} (h : Cop a b) (hd : ∀ x, evL x a = evL x q * evL x d) : Cop d b := (h.symm.dvd hd).symm
theorem Cop.add {a b c m : List Int} (h : Cop a b) (hc : ∀ x, evL x c = evL x b + evL x m * evL x a) : Cop a c := by
 obtain ⟨s, t, k, hk, e⟩ := h
 exact ⟨addL s (scL (-1) (mulL t m)), t, k, hk, fun x => by rw [evL_addL, evL_scL, evL_mulL, ← e x, hc]; grind⟩
theorem Cop.sc {a b c : List Int} {m : Int} (h : Cop a b) (hm : m ≠ 0) (hc : ∀ x, evL x c = m * evL x b) : Cop a c := by
 obtain ⟨s, t, k, hk, e⟩ := h
 refine ⟨scL m s, t, m * k, Int.mul_ne_zero hm hk, fun x => ?_⟩
 rw [evL_scL, hc, ← e x]; grind
theorem cop_one (a : List Int) : Cop a [1] := ⟨[], [1], 1, by decide, fun x => by rw [ev_one]; simp [evL]⟩
theorem tr_const {k : Int} (hk : k ≠ 0) : tr [k] = [k] := by simp [tr, hk]
theorem Cop.const {a b d : List Int} (h : Cop a b) (h1 : Dv d a) (h2 : Dv d b) : (tr d).length = 1 := by
 obtain ⟨s, t, k, hk, e⟩ := h
 obtain ⟨q1, e1⟩ := ev_dv h1
 obtain ⟨q2, e2⟩ := ev_dv h2
 have h3 : Eqp [k] (mulL (addL (mulL s q1) (mulL t q2)) d) := eqp_ev fun x => by
  rw [evL_mulL, evL_addL, evL_mulL, evL_mulL]
  have := e x
  rw [e1, e2] at this
  simp only [evL, Int.mul_zero, Int.add_zero]
  rw [← this]; grind
 have h4 := tr_of_eqp h3
 rw [tr_const hk] at h4
 have n1 : tr (addL (mulL s q1) (mulL t q2)) ≠ [] := fun h0 => by
  have := tr_mulL_nil (a := addL (mulL s q1) (mulL t q2)) (b := d)
  rw [← h4] at this
  simp [h0] at this
 have n2 : tr d ≠ [] := fun h0 => by
  have := tr_mulL_nil (a := addL (mulL s q1) (mulL t q2)) (b := d)
  rw [← h4] at this
  simp [h0] at this
 have h5 := tr_mulL_len n1 n2
 rw [← h4] at h5
 have := List.length_pos_iff.2 n1
 have := List.length_pos_iff.2 n2
 simp at h5
 omega
theorem tr_ne_of_co {a : List Int} (h : coL a = 1) : tr a ≠ [] := fun h0 => by rw [coL_zero.2 h0] at h; omega
theorem gd_of {A B G a b : List Int} (hA : ∀ x, evL x A = evL x a * evL x G) (hB : ∀ x, evL x B = evL x b * evL x G) (hc : Cop a b) (h1 : coL A = 1) (hG : 0 < ldL G) : Eqp (gdZ A B) G := by
 refine gdZ_is hG (dv_ev hA) (dv_ev hB) fun d d1 d2 => ?_
 have hd : gcL d = 1 := by
  obtain ⟨q, hq⟩ := d1
  have h2 : gcL A = gcL q * gcL d := by rw [gcL_eqp hq, gcL_mulL]
  rw [gcL_one h1] at h2
  exact Nat.eq_one_of_mul_eq_one_left h2.symm
 obtain ⟨s, t, k, hk, e⟩ := hc
 obtain ⟨q1, e1⟩ := ev_dv d1
 obtain ⟨q2, e2⟩ := ev_dv d2
 refine dv_prim hd hk (dv_ev (q := addL (mulL s q1) (mulL t q2)) fun x => ?_)
 rw [evL_scL, evL_addL, evL_mulL, evL_mulL, ← e x]
 have h3 := e1 x
 have h4 := e2 x
 rw [hA] at h3
 rw [hB] at h4
 grind
theorem co_one_mul {a b : List Int} (ha : coL a = 1) (hb : coL b = 1) : coL (mulL a b) = 1 := by rw [coL_mul, ha, hb]; rfl
theorem co_ev {a b : List Int} (h : ∀ x, evL x a = evL x b) : coL a = coL b := coL_eqp (eqp_ev h)
theorem co_const {c : Int} (h : coL [c] = 1) : c = 1 := by
 have h0 := tr_ne_of_co h
 have hc : c ≠ 0 := fun e => h0 (by rw [e]; rfl)
 have := ldL_pos h
 rw [ldL, tr_const hc] at this
 have h2 := gcL_one h
 simp [gcL] at h2
 simp at this
 omega
theorem co_short {a : List Int} (h : coL a = 1) (hl : (tr a).length ≤ 1) : ∀ x, evL x a = 1 := fun x => by
 have h0 := List.length_pos_iff.2 (tr_ne_of_co h)
 obtain ⟨c, hc⟩ := List.length_eq_one_iff.1 (show (tr a).length = 1 by omega)
 have h2 : coL [c] = 1 := by rw [← hc, coL_eqp (cf_tr a)]; exact h
 rw [← evL_eqp x (cf_tr a), hc, co_const h2, ev_one]
def powL (q : List Int) : Nat → List Int
 | 0 => [1]
 | n + 1 => mulL q (powL q n)
theorem ev_pow (x : Int) (q : List Int) : ∀ n, evL x (powL q n) = evL x q ^ n
 | 0 => by rw [powL, ev_one, Int.pow_zero]
 | n + 1 => by rw [powL, evL_mulL, ev_pow x q n, Int.pow_succ, Int.mul_comm]
theorem ev_one_de (x : Int) : evL x (deL [1]) = 0 := by simp [deL, addL, evL]
theorem ev_pow_de (x : Int) (q : List Int) : ∀ n : Nat, evL x (deL (powL q (n + 1))) = ((n : Int) + 1) * evL x q ^ n * evL x (deL q)
 | 0 => by rw [powL, ev_de, powL, ev_one, ev_one_de, Int.pow_zero]; grind
 | n + 1 => by
  rw [powL, ev_de, ev_pow_de x q n, ev_pow, Int.pow_succ]
  have : ((n + 1 : Nat) : Int) = (n : Int) + 1 := by omega
  rw [this]
  grind
def BL : List (List Int) → List Int
 | [] => [1]
 | q :: qs => mulL q (BL qs)
def PL' (w : Nat) : List (List Int) → List Int
 | [] => [1]
 | q :: qs => mulL (powL q w) (PL' (w + 1) qs)
def EL (w : Nat) : List (List Int) → List Int
 | [] => [1]
 | q :: qs => mulL (powL q w) (EL (w + 1) qs)
def CL (w : Int) : List (List Int) → List Int
 | [] => []
 | q :: qs => addL (scL w (mulL (deL q) (BL qs))) (mulL q (CL (w + 1) qs))
theorem ev_split (x : Int) : ∀ (qs : List (List Int)) (w : Nat), evL x (PL' (w + 1) qs) = evL x (EL w qs) * evL x (BL qs)
 | [], w => by simp only [PL', EL, BL, ev_one]; rfl
 | q :: qs, w => by
  simp only [PL', EL, BL, evL_mulL, ev_pow, ev_split x qs (w + 1), Int.pow_succ]
  grind
theorem ev_split_de (x : Int) : ∀ (qs : List (List Int)) (w : Nat), evL x (deL (PL' (w + 1) qs)) = evL x (EL w qs) * evL x (CL ((w : Int) + 1) qs)
 | [], w => by simp only [PL', EL, CL, ev_one_de, evL]; omega
 | q :: qs, w => by
  have ih := ev_split_de x qs (w + 1)
  have ih2 := ev_split x qs (w + 1)
  simp only [PL', EL, CL, evL_mulL, evL_addL, evL_scL, ev_de, ev_pow_de, ev_pow]
  rw [ih, ih2]
  have : ((w + 1 : Nat) : Int) + 1 = (w : Int) + 1 + 1 := by omega
  rw [this, Int.pow_succ]
  grind
theorem ev_less (x : Int) : ∀ (qs : List (List Int)) (w : Int), evL x (CL (w + 1) qs) - evL x (deL (BL qs)) = evL x (CL w qs)
 | [], w => by simp only [CL, BL, ev_one_de, evL]; omega
 | q :: qs, w => by
  have ih := ev_less x qs (w + 1)
  simp only [CL, BL, evL_mulL, evL_addL, evL_scL, ev_de]
  grind
def OkL : List (List Int) → Prop
 | [] => True
 | q :: qs => coL q = 1 ∧ Cop q (deL q) ∧ Cop q (BL qs) ∧ OkL qs
theorem co_BL : ∀ {qs : List (List Int)}, OkL qs → coL (BL qs) = 1
 | [], _ => by decide
 | q :: qs, h => co_one_mul h.1 (co_BL h.2.2.2)
theorem co_1 : coL [1] = 1 := by decide
theorem co_pow {q : List Int} (h : coL q = 1) : ∀ n, coL (powL q n) = 1
 | 0 => co_1
 | n + 1 => co_one_mul h (co_pow h n)
theorem co_EL : ∀ {qs : List (List Int)} (w : Nat), OkL qs → coL (EL w qs) = 1
 | [], _, _ => co_1
 | q :: qs, w, h => co_one_mul (co_pow h.1 w) (co_EL (w + 1) h.2.2.2)
theorem co_PL : ∀ {qs : List (List Int)} (w : Nat), OkL qs → coL (PL' w qs) = 1
 | [], _, _ => co_1
 | q :: qs, w, h => co_one_mul (co_pow h.1 w) (co_PL (w + 1) h.2.2.2)
theorem cop_BC : ∀ (qs : List (List Int)) (w : Int), 0 < w → OkL qs → Cop (BL qs) (CL w qs)
 | [], w, _, _ => ⟨[1], [], 1, by decide, fun x => by simp [BL, evL]⟩
 | q :: qs, w, hw, h => by
  obtain ⟨h1, h2, h3, h4⟩ := h
  have ih := cop_BC qs (w + 1) (by omega) h4
  have a1 : Cop q (CL w (q :: qs)) := ((h2.mul h3).sc (m := w) (c := scL w (mulL (deL q) (BL qs))) (by omega) (fun x => by rw [evL_scL])).add (m := CL (w + 1) qs) fun x => by
   simp only [CL, evL_addL, evL_mulL, evL_scL]; grind
  have a2 : Cop (BL qs) (CL w (q :: qs)) := (h3.symm.mul ih).add (m := scL w (deL q)) fun x => by
   simp only [CL, evL_addL, evL_mulL, evL_scL]; grind
  exact (a1.symm.mul a2.symm).symm
theorem gd_first {p : List Int} {qs : List (List Int)} (h : OkL qs) (hp : ∀ x, evL x p = evL x (PL' 1 qs)) : Eqp (gdZ p (deL p)) (EL 0 qs) :=
 gd_of (a := BL qs) (b := CL 1 qs) (fun x => by rw [hp, ev_split x qs 0, Int.mul_comm]) (fun x => by rw [ev_de_congr hp, ev_split_de x qs 0, Int.mul_comm]; rfl) (cop_BC qs 1 (by omega) h) (by rw [co_ev hp]; exact co_PL 1 h) (ldL_pos (co_EL 0 h))
theorem gd_next {q : List Int} {qs : List (List Int)} (h : OkL (q :: qs)) : Eqp (gdZ (BL (q :: qs)) (CL 0 (q :: qs))) q :=
 gd_of (a := BL qs) (b := CL 1 qs) (fun x => by simp only [BL, evL_mulL]; grind) (fun x => by simp only [CL, evL_addL, evL_mulL, evL_scL]; grind) (cop_BC qs 1 (by omega) h.2.2.2) (co_BL h) (ldL_pos h.1)
theorem cop_sq {a b : List Int} (ha : Cop a (deL a)) (hb : Cop b (deL b)) (hab : Cop a b) : Cop (mulL a b) (deL (mulL a b)) := by
 have a1 : Cop a (deL (mulL a b)) := (ha.mul hab).add (m := deL b) fun x => by rw [ev_de, evL_mulL]; grind
 have a2 : Cop b (deL (mulL a b)) := (hb.mul hab.symm).add (m := deL a) fun x => by rw [ev_de, evL_mulL]; grind
 exact (a1.symm.mul a2.symm).symm
theorem sq_parts {q f g : List Int} (h : Cop q (deL q)) (hq : ∀ x, evL x q = evL x f * evL x g) : Cop f g ∧ Cop f (deL f) ∧ Cop g (deL g) := by
 obtain ⟨s, t, k, hk, e⟩ := h
 have hd : ∀ x, evL x (deL q) = evL x (deL f) * evL x g + evL x f * evL x (deL g) := fun x => by
  rw [ev_de_congr (b := mulL f g) (fun x => by rw [hq, evL_mulL]), ev_de]
 refine ⟨⟨addL (mulL s g) (mulL t (deL g)), mulL t (deL f), k, hk, fun x => ?_⟩, ⟨addL (mulL s g) (mulL t (deL g)), mulL t g, k, hk, fun x => ?_⟩, ⟨addL (mulL s f) (mulL t (deL f)), mulL t f, k, hk, fun x => ?_⟩⟩
 all_goals
  have := e x
  rw [hq, hd] at this
  simp only [evL_addL, evL_mulL]
  rw [← this]; grind
def add1 (f : List Int) : List (List Int) → List (List Int)
 | [] => [f]
 | q :: qs => mulL q f :: qs
theorem ev_add1_B (x : Int) (f : List Int) (qs : List (List Int)) : evL x (BL (add1 f qs)) = evL x f * evL x (BL qs) := by
 cases qs with
 | nil => simp only [add1, BL, evL_mulL]
 | cons q qs => simp only [add1, BL, evL_mulL]; grind
theorem ev_add1_P (x : Int) (f : List Int) (qs : List (List Int)) (w : Nat) : evL x (PL' w (add1 f qs)) = evL x f ^ w * evL x (PL' w qs) := by
 cases qs with
 | nil => simp only [add1, PL', evL_mulL, ev_pow]
 | cons q qs => simp only [add1, PL', evL_mulL, ev_pow, Int.mul_pow]; grind
theorem ok_add1 {f : List Int} {qs : List (List Int)} (hf : coL f = 1) (h1 : Cop f (deL f)) (h2 : Cop f (BL qs)) (h : OkL qs) : OkL (add1 f qs) := by
 cases qs with
 | nil => exact ⟨hf, h1, cop_one f, trivial⟩
 | cons q qs =>
  obtain ⟨a1, a2, a3, a4⟩ := h
  have hq : Cop f q := h2.dvd (q := BL qs) fun x => by simp only [BL, evL_mulL]; grind
  have hB : Cop f (BL qs) := h2.dvd (q := q) fun x => by simp only [BL, evL_mulL]
  exact ⟨co_one_mul a1 hf, cop_sq a2 h1 hq.symm, (a3.symm.mul hB.symm).symm, a4⟩
def Irr (f : List Int) : Prop := ∀ d, Dv d f → (tr d).length ≤ 1 ∨ (tr f).length ≤ (tr d).length
theorem gdL_bez : ∀ (n : Nat) (x y : List Int), (tr y).length ≤ n → ∃ (s t : List Int) (m : Int), m ≠ 0 ∧ ∀ z, evL z s * evL z x + evL z t * evL z y = m * evL z (gdL x y) := by
 intro n
 induction n with
 | zero =>
  intro x y hn
  have hy : tr y = [] := List.length_eq_zero_iff.1 (by omega)
  rw [gdL_nil hy]
  exact ⟨[1], [], 1, by decide, fun z => by rw [ev_one]; simp [evL]⟩
 | succ n ih =>
  intro x y hn
  by_cases hy : tr y = []
  · rw [gdL_nil hy]
    exact ⟨[1], [], 1, by decide, fun z => by rw [ev_one]; simp [evL]⟩
  · rw [gdL_step hy]
    have ps := psD_ok (a := x) hy
    obtain ⟨q, hq⟩ : ∃ q, q = (psD x y).1 := ⟨_, rfl⟩
    obtain ⟨r, hr⟩ : ∃ q, q = (psD x y).2 := ⟨_, rfl⟩
    rw [← hq, ← hr] at ps
    rw [← hr]
    obtain ⟨s, t, m, hm, e⟩ := ih y (ppL r) (by rw [tr_ppL, ppL, List.length_map]; have := ps.lt; omega)
    by_cases h0 : tr r = []
    · have hz : ∀ z, evL z (ppL r) = 0 := fun z => evL_zeros ((tr_nil_iff _).1 (by rw [tr_ppL, ppL, h0]; rfl))
      refine ⟨[], s, m, hm, fun z => ?_⟩
      have := e z
      rw [hz] at this
      simp only [evL]
      rw [← this]; grind
    · have hc : coL r ≠ 0 := fun e => h0 (coL_zero.1 e)
      refine ⟨scL (ldL y ^ ((tr x).length + 1 - (tr y).length)) t, addL (scL (coL r) s) (scL (-1) (mulL t q)), coL r * m, Int.mul_ne_zero hc hm, fun z => ?_⟩
      have h1 := e z
      have h2 := evL_eqp z ps.eq
      have h3 := evL_eqp z (ppL_mul r)
      rw [evL_scL, evL_addL, evL_mulL] at h2
      rw [evL_scL] at h3
      rw [evL_scL, evL_addL, evL_scL, evL_scL, evL_mulL]
      obtain ⟨L, hL⟩ : ∃ L, L = ldL y ^ ((tr x).length + 1 - (tr y).length) := ⟨_, rfl⟩
      rw [← hL] at h2 ⊢
      grind
theorem irr_or {f g : List Int} (hf : Irr f) (h1 : coL f = 1) : Dv f g ∨ Cop f g := by
 by_cases hg : tr g = []
 · exact .inl (Dv.zero hg)
 obtain ⟨s, t, m, hm, e⟩ := gdL_bez _ f (ppL g) (Nat.le_refl _)
 have hcg : coL g ≠ 0 := fun e => hg (coL_zero.1 e)
 have hco : coL (gdL f (ppL g)) = 1 := by
  rcases gdL_prim _ f (ppL g) (Nat.le_refl _) (.inr h1) (.inr (coL_ppL hg)) with h | h
  · exact absurd h.1 (tr_ne_of_co h1)
  · exact h
 obtain ⟨d1, d2⟩ := (gdL_dv (gdL f (ppL g)) (gcL_one hco) _ f (ppL g) (Nat.le_refl _)).2 (Dv.refl' _)
 rcases hf _ d1 with h | h
 · right
   have hone := co_short hco h
   refine ⟨scL (coL g) s, t, coL g * m, Int.mul_ne_zero hcg hm, fun z => ?_⟩
   have h2 := e z
   have h3 := evL_eqp z (ppL_mul g)
   rw [hone, Int.mul_one] at h2
   rw [evL_scL] at h3 ⊢
   rw [h3, ← h2]; grind
 · left
   obtain ⟨q, hq⟩ := d1
   have hq0 : tr q ≠ [] := fun h0 => tr_ne_of_co h1 (by rw [tr_of_eqp hq]; exact tr_mulL_nil.2 (.inl h0))
   have hl := tr_mulL_len hq0 (tr_ne_of_co hco)
   rw [← tr_of_eqp hq] at hl
   have hql : (tr q).length ≤ 1 := by have := List.length_pos_iff.2 (tr_ne_of_co hco); omega
   have hcq : coL q = 1 := by
    have := coL_mul q (gdL f (ppL g))
    rw [← coL_eqp hq, h1, hco] at this
    omega
   have hone := co_short hcq hql
   have he : Eqp f (gdL f (ppL g)) := (hq.trans (eqp_ev fun x => by rw [evL_mulL, hone, Int.one_mul]))
   have : Dv f (ppL g) := d2.eqpl he.symm
   exact (this.sc (coL g)).eqp (ppL_mul g).symm
theorem ins_ex {f : List Int} (hf : Irr f) (h1 : coL f = 1) (hl : 2 ≤ (tr f).length) : ∀ (qs : List (List Int)) (w : Nat), OkL qs → ¬ Cop f (BL qs) → ∃ qs', OkL qs' ∧ (∀ x, evL x (PL' w qs') = evL x f * evL x (PL' w qs)) ∧ ∀ x, evL x (BL qs') = evL x (BL qs)
 | [], w, _, h => absurd (cop_one f) h
 | q :: qs, w, hok, h => by
  obtain ⟨a1, a2, a3, a4⟩ := hok
  rcases irr_or hf h1 (g := q) with hd | hc
  · obtain ⟨g, hg⟩ := ev_dv hd
    have hg' : ∀ x, evL x q = evL x f * evL x g := fun x => by rw [hg, Int.mul_comm]
    obtain ⟨b1, b2, b3⟩ := sq_parts a2 hg'
    have hcg : coL g = 1 := by
     have := co_ev (a := q) (b := mulL f g) fun x => by rw [hg', evL_mulL]
     rw [a1, coL_mul, h1] at this
     omega
    have c1 : Cop f (BL qs) := a3.dvdl (q := g) hg
    have c2 : Cop g (BL qs) := a3.dvdl (q := f) hg'
    refine ⟨g :: add1 f qs, ⟨hcg, b3, ?_, ok_add1 h1 b2 c1 a4⟩, fun x => ?_, fun x => ?_⟩
    · exact (b1.symm.mul c2).ev (fun _ => rfl) fun x => by rw [ev_add1_B, evL_mulL]
    · simp only [PL', evL_mulL, ev_pow, ev_add1_P, hg', Int.mul_pow, Int.pow_succ]; grind
    · simp only [BL, evL_mulL, ev_add1_B, hg']; grind
  · have h' : ¬ Cop f (BL qs) := fun hb => h (hc.mul hb)
    obtain ⟨qs', o1, o2, o3⟩ := ins_ex hf h1 hl qs (w + 1) a4 h'
    refine ⟨q :: qs', ⟨a1, a2, a3.ev (fun _ => rfl) fun x => (o3 x).symm, o1⟩, fun x => ?_, fun x => ?_⟩
    · simp only [PL', evL_mulL, o2]; grind
    · simp only [BL, evL_mulL, o3]
theorem irr_ex : ∀ (n : Nat) (p : List Int), (tr p).length ≤ n → coL p = 1 → 2 ≤ (tr p).length → ∃ f, Dv f p ∧ coL f = 1 ∧ 2 ≤ (tr f).length ∧ Irr f := by
 intro n
 induction n with
 | zero => intro p h1 _ h2; omega
 | succ n ih =>
  intro p hn h1 h2
  by_cases hirr : Irr p
  · exact ⟨p, Dv.refl' p, h1, h2, hirr⟩
  · obtain ⟨d, hd⟩ := Classical.not_forall.1 hirr
    simp only [Classical.not_imp, not_or, Nat.not_le] at hd
    obtain ⟨d1, d2, d3⟩ := hd
    have hd0 : tr d ≠ [] := List.length_pos_iff.1 (by omega)
    obtain ⟨q, hq⟩ := d1
    have hg : gcL d = 1 := by
     have h2 : gcL p = gcL q * gcL d := by rw [gcL_eqp hq, gcL_mulL]
     rw [gcL_one h1] at h2
     exact Nat.eq_one_of_mul_eq_one_left h2.symm
    have hlp : (tr (ppL d)).length = (tr d).length := by rw [tr_ppL, ppL, List.length_map]
    have hdp : Dv (ppL d) p := Dv.trans' (dv_of_pp d) ⟨q, hq⟩
    obtain ⟨f, f1, f2, f3, f4⟩ := ih (ppL d) (by omega) (coL_ppL hd0) (by omega)
    exact ⟨f, Dv.trans' f1 hdp, f2, f3, f4⟩
where
 dv_of_pp (d : List Int) : Dv (ppL d) d := ((Dv.refl' (ppL d)).sc (coL d)).eqp (ppL_mul d).symm
theorem tr_short {l : List Int} {n : Nat} (h : ∀ i, n ≤ i → cf l i = 0) : (tr l).length ≤ n := by
 rcases Nat.lt_or_ge n (tr l).length with h1 | h1
 · exfalso
   have h2 := tr_last l (List.length_pos_iff.1 (by omega))
   rw [cf_tr] at h2
   exact h2 (h _ (by omega))
 · exact h1
theorem parts_ex : ∀ (n : Nat) (p : List Int), (tr p).length ≤ n → coL p = 1 → ∃ qs, OkL qs ∧ ∀ x, evL x p = evL x (PL' 1 qs) := by
 intro n
 induction n with
 | zero =>
  intro p hn h1
  exact absurd (List.length_eq_zero_iff.1 (by omega)) (tr_ne_of_co h1)
 | succ n ih =>
  intro p hn h1
  by_cases h2 : 2 ≤ (tr p).length
  · obtain ⟨f, f1, f2, f3, f4⟩ := irr_ex _ p (Nat.le_refl _) h1 h2
    obtain ⟨q, hq⟩ := ev_dv f1
    have hcq : coL q = 1 := by
     have := co_ev (a := p) (b := mulL q f) fun x => by rw [hq, evL_mulL]
     rw [h1, coL_mul, f2] at this
     omega
    have hl := tr_mulL_len (tr_ne_of_co hcq) (tr_ne_of_co f2)
    rw [← tr_of_eqp (eqp_ev fun x => by rw [hq, evL_mulL] : Eqp p (mulL q f))] at hl
    obtain ⟨qs, o1, o2⟩ := ih q (by omega) hcq
    by_cases hc : Cop f (BL qs)
    · have hsq : Cop f (deL f) := by
       rcases irr_or f4 f2 (g := deL f) with h | h
       · exfalso
         have hd0 : tr (deL f) ≠ [] := fun h0 => by
          have := (tr_nil_iff _).1 h0 ((tr f).length - 2)
          rw [cf_deL, ← cf_tr f, show (tr f).length - 2 + 1 = (tr f).length - 1 by omega] at this
          have h3 := tr_last f (tr_ne_of_co f2)
          rcases Int.mul_eq_zero.1 this with h4 | h4
          · omega
          · exact h3 h4
         have := (dv_len h hd0).2
         have h5 : (tr (deL f)).length ≤ (tr f).length - 1 := by
          refine tr_short fun i hi => ?_
          rw [cf_deL, ← cf_tr f, cf_ge (by omega), Int.mul_zero]
         omega
       · exact h
      refine ⟨add1 f qs, ok_add1 f2 hsq hc o1, fun x => ?_⟩
      rw [ev_add1_P, ← o2, hq, Int.pow_succ, Int.pow_zero]; grind
    · obtain ⟨qs', p1, p2, p3⟩ := ins_ex f4 f2 f3 qs 1 o1 hc
      exact ⟨qs', p1, fun x => by rw [p2, hq, o2, Int.mul_comm]⟩
  · exact ⟨[], trivial, fun x => by rw [co_short h1 (by omega)]; simp [PL', ev_one]⟩
end Go.Py
