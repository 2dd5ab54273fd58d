/- The numbers of the rests, each made primitive, are at most determinants of the first pair. -/
import Derived.Test.YtfdjbmamidmgfaaGreatPO
set_option linter.unusedVariables false
namespace Go.Dt
open Go.Py
def smZ (f : Nat → Int) : Nat → Int
 | 0 => 0
 | n + 1 => smZ f n + f n
def sgZ (j : Nat) : Int := if j % 2 = 0 then 1 else -1
def detZ : Nat → (Nat → Nat → Int) → Int
 | 0, _ => 1
 | n + 1, M => smZ (fun j => sgZ j * M 0 j * detZ n (fun r c => M (r + 1) (sk j c))) (n + 1)
theorem sm_cast (f : Nat → Int) : ∀ n, sm (fun j => ((f j : Int) : Rat)) n = ((smZ f n : Int) : Rat)
 | 0 => rfl
 | n + 1 => by rw [sm, smZ, sm_cast f n]; push_cast; rfl
theorem sg_cast (j : Nat) : sg j = ((sgZ j : Int) : Rat) := by unfold sg sgZ; split <;> rfl
theorem det_cast : ∀ (n : Nat) (M : Nat → Nat → Int), det n (fun r c => ((M r c : Int) : Rat)) = ((detZ n M : Int) : Rat)
 | 0, M => rfl
 | n + 1, M => by
  rw [det, detZ, ← sm_cast]
  refine sm_congr fun j _ => ?_
  rw [det_cast n, sg_cast]
  push_cast
  rfl
theorem smZ_abs {f : Nat → Int} {X : Nat} : ∀ {n : Nat}, (∀ j, j < n → (f j).natAbs ≤ X) → (smZ f n).natAbs ≤ n * X
 | 0, _ => by simp [smZ]
 | n + 1, h => by
  have h1 := smZ_abs (f := f) (X := X) (n := n) fun j hj => h j (by omega)
  have h2 := h n (by omega)
  have h3 := Int.natAbs_add_le (smZ f n) (f n)
  rw [smZ, Nat.add_mul, Nat.one_mul]
  omega
def dB (C : Nat) : Nat → Nat
 | 0 => 1
 | n + 1 => (n + 1) * (C * dB C n)
theorem detZ_abs {C : Nat} : ∀ {n : Nat} {M : Nat → Nat → Int}, (∀ r c, (M r c).natAbs ≤ C) → (detZ n M).natAbs ≤ dB C n
 | 0, M, _ => by simp [detZ, dB]
 | n + 1, M, h => by
  rw [detZ, dB]
  refine smZ_abs fun j _ => ?_
  rw [Int.natAbs_mul, Int.natAbs_mul]
  have h1 : (sgZ j).natAbs = 1 := by unfold sgZ; split <;> rfl
  rw [h1, Nat.one_mul]
  exact Nat.mul_le_mul (h 0 j) (detZ_abs fun r c => h _ _)
theorem dB_le {C B : Nat} : ∀ {n : Nat}, n ≤ B → dB C n ≤ (B * C) ^ n
 | 0, _ => by simp [dB]
 | n + 1, h => by
  rw [dB, Nat.pow_succ, Nat.mul_comm ((B * C) ^ n), Nat.mul_assoc]
  exact Nat.mul_le_mul h (Nat.mul_le_mul_left _ (dB_le (by omega)))
def shZ (i : Nat) (l : List Int) (e : Nat) : Int := if i ≤ e then cf l (e - i) else 0
theorem sh_cast (i : Nat) (l : List Int) : sh i (po l) = fun e => ((shZ i l e : Int) : Rat) := by
 funext e
 unfold sh po shZ
 split <;> rfl
def subM (a b : List Int) (m n j t : Nat) (r c : Nat) : Int :=
 if r < n - j then shZ (n - j - 1 - r) a (colf (m + n - j - 1) t (m + n - 2 * j) c) else if r - (n - j) < m - j then shZ (m - j - 1 - (r - (n - j))) b (colf (m + n - j - 1) t (m + n - 2 * j) c) else 0
def subZ (a b : List Int) (m n j t : Nat) : Int := detZ (n - j + (m - j)) (subM a b m n j t)
theorem sub_cast (a b : List Int) (m n j t : Nat) : Sub (po a) (po b) m n j t = ((subZ a b m n j t : Int) : Rat) := by
 rw [Sub, Dt, List.length_append, shs_len, shs_len, subZ, ← det_cast]
 refine det_congr fun r c hr _ => ?_
 unfold subM
 by_cases h : r < n - j
 · rw [if_pos h, rowAt_lt (by rw [shs_len]; exact h), rowAt_shs _ h, sh_cast]
 · rw [if_neg h, if_pos (by omega), rowAt_ge (by rw [shs_len]; omega), shs_len, rowAt_shs _ (by omega), sh_cast]
theorem subZ_abs {a b : List Int} {C : Nat} (ha : ∀ i, (cf a i).natAbs ≤ C) (hb : ∀ i, (cf b i).natAbs ≤ C) (m n j t : Nat) : (subZ a b m n j t).natAbs ≤ dB C (n - j + (m - j)) := by
 refine detZ_abs fun r c => ?_
 have key : ∀ (l : List Int) (i e : Nat), (∀ i, (cf l i).natAbs ≤ C) → (shZ i l e).natAbs ≤ C := fun l i e h => by
  unfold shZ; split
  · exact h _
  · simp
 unfold subM
 split
 · exact key a _ _ ha
 · split
   · exact key b _ _ hb
   · simp
structure PrI (a0 b0 a b : List Int) (m0 n0 : Nat) : Prop where
 ta : tr a = a
 tb : tr b = b
 hb : 1 ≤ b.length
 hab : b.length ≤ a.length
 inv : ∀ j, j + 1 ≤ b.length → j + 1 < a.length → ∃ κ : Rat, κ ≠ 0 ∧ ∀ t, Sub (po a) (po b) (a.length - 1) (b.length - 1) j t = κ * Sub (po a0) (po b0) m0 n0 j t
theorem prI_first {a b : List Int} (ta : tr a = a) (tb : tr b = b) (hb : 1 ≤ b.length) (hab : b.length ≤ a.length) : PrI a b a b (a.length - 1) (b.length - 1) :=
 ⟨ta, tb, hb, hab, fun j _ _ => ⟨1, by decide, fun t => by grind⟩⟩
theorem prI_step {a0 b0 a b : List Int} {m0 n0 : Nat} (H : PrI a0 b0 a b m0 n0) (hb2 : 2 ≤ b.length) (hn : tr (psD a b).2 ≠ []) : PrI a0 b0 b (ppL (psD a b).2) m0 n0 := by
 obtain ⟨f, hf, hR⟩ := ps_rows H.ta H.tb H.hb H.hab
 have hb0 : tr b ≠ [] := by rw [H.tb]; exact List.length_pos_iff.1 H.hb
 have l0 : ((ldL b : Int) : Rat) ≠ 0 := fun h => ldL_ne hb0 (cast_zero.1 h)
 have hlt := (psD_ok (a := a) (b := b) hb0).lt
 rw [H.tb] at hlt
 have hab := H.hab
 have hl' := ppL_len' (psD a b).2
 have hpos := List.length_pos_iff.2 hn
 have c0 : ((coL (psD a b).2 : Int) : Rat) ≠ 0 := fun h => hn (coL_zero.1 (cast_zero.1 h))
 have hRc : po (tr (psD a b).2) = fun e => ((coL (psD a b).2 : Int) : Rat) * po (ppL (psD a b).2) e := po_scale _ _ _ fun t => by rw [cf_tr, ppL_mul _ t, cf_scL]
 refine ⟨H.tb, tr_ppL _, by omega, by omega, fun j hj1 hj2 => ?_⟩
 obtain ⟨κ, hκ, hκe⟩ := H.inv j (by omega) (by omega)
 have hp1 := pow_ne (pow_ne l0 (a.length - 1 - (b.length - 1) + 1)) (b.length - 1 - j)
 have hp2 := pow_ne l0 (a.length - 1 - ((ppL (psD a b).2).length - 1))
 have hp3 := pow_ne c0 (b.length - 1 - j)
 have hs := sg_ne ((b.length - 1 - j) * (a.length - 1 - j))
 obtain ⟨X, hX⟩ : ∃ X, X = (((ldL b : Int) : Rat) ^ (a.length - 1 - (b.length - 1) + 1)) ^ (b.length - 1 - j) * κ := ⟨_, rfl⟩
 obtain ⟨Y, hY⟩ : ∃ Y, Y = sg ((b.length - 1 - j) * (a.length - 1 - j)) * (((ldL b : Int) : Rat) ^ (a.length - 1 - ((ppL (psD a b).2).length - 1)) * ((coL (psD a b).2 : Int) : Rat) ^ (b.length - 1 - j)) := ⟨_, rfl⟩
 have x0 : X ≠ 0 := fun h => by rw [hX] at h; rcases Rat.mul_eq_zero.1 h with e | e; exact hp1 e; exact hκ e
 have y0 : Y ≠ 0 := fun h => by
  rw [hY] at h
  rcases Rat.mul_eq_zero.1 h with e | e
  · exact hs e
  · rcases Rat.mul_eq_zero.1 e with e | e
    · exact hp2 e
    · exact hp3 e
 refine ⟨X / Y, fun h => ?_, fun t => ?_⟩
 · have : X = Y * (X / Y) := by grind
   rw [h] at this
   exact x0 (by grind)
 · have h1 := sub_step (A := po a) (B := po b) (m := a.length - 1) (n := b.length - 1) (k := (ppL (psD a b).2).length - 1) (j := j) t po_top (fun e he => po_ge (by omega)) hR hf (by omega) (by omega) (by omega)
   rw [ldL_po H.tb, hRc, sub_scale, hκe t] at h1
   obtain ⟨S, hS⟩ : ∃ S, S = Sub (po a0) (po b0) m0 n0 j t := ⟨_, rfl⟩
   obtain ⟨T, hT⟩ : ∃ S, S = Sub (po b) (po (ppL (psD a b).2)) (b.length - 1) ((ppL (psD a b).2).length - 1) j t := ⟨_, rfl⟩
   rw [← hS, ← hT] at h1
   rw [← hS, ← hT]
   have h2 : X * S = Y * T := by rw [hX, hY]; grind
   have h3 : Y * (X / Y) = X := by grind
   have : Y * (T - X / Y * S) = 0 := by grind
   rcases Rat.mul_eq_zero.1 this with e | e
   · exact absurd e y0
   · grind
theorem prim_le {p : List Int} (hp : gcL p = 1) {S : Nat → Int} {u v : Int} (hu : u ≠ 0) (h : ∀ t, u * cf p t = v * S t) (t : Nat) : (cf p t).natAbs ≤ (S t).natAbs := by
 have h1 : ∃ g : Nat, u.natAbs = v.natAbs * g := by
  have hd : v.natAbs ∣ gcL (scL u p) := dvd_gcL fun i => by
   rw [cf_scL, h i]
   exact Int.dvd_trans (Int.natAbs_dvd.2 (Int.dvd_refl v)) (Int.dvd_mul_right v (S i))
  rw [gcL_scL, hp, Nat.mul_one] at hd
  exact hd
 obtain ⟨g, hg⟩ := h1
 have hg0 : 1 ≤ g := by
  rcases Nat.eq_zero_or_pos g with e | e
  · rw [e, Nat.mul_zero] at hg; omega
  · exact e
 have hv0 : 0 < v.natAbs := by
  rcases Nat.eq_zero_or_pos v.natAbs with e | e
  · rw [e, Nat.zero_mul] at hg; omega
  · exact e
 have h2 := congrArg Int.natAbs (h t)
 rw [Int.natAbs_mul, Int.natAbs_mul, hg, Nat.mul_assoc] at h2
 have h3 := Nat.eq_of_mul_eq_mul_left hv0 h2
 rw [← h3]
 exact Nat.le_mul_of_pos_left _ hg0
theorem rat_frac (x : Rat) : ∃ u v : Int, u ≠ 0 ∧ (u : Rat) * x = (v : Rat) := by
 refine ⟨(x.den : Int), x.num, by have := x.den_nz; omega, ?_⟩
 have h := Rat.mkRat_self x
 rw [Rat.mkRat_eq_div] at h
 have hd : (x.den : Rat) ≠ 0 := by exact_mod_cast x.den_nz
 have e : (x.den : Rat) * x = (x.num : Rat) := by
  have : x = x.num / x.den := h.symm
  rw [this]
  grind
 exact_mod_cast e
theorem prI_lim {a0 b0 a b : List Int} {m0 n0 : Nat} (H : PrI a0 b0 a b m0 n0) (hb2 : 2 ≤ b.length) (hn : tr (psD a b).2 ≠ []) (t : Nat) : ∃ j, (cf (ppL (psD a b).2) t).natAbs ≤ (subZ a0 b0 m0 n0 j t).natAbs := by
 obtain ⟨f, hf, hR⟩ := ps_rows H.ta H.tb H.hb H.hab
 have hb0 : tr b ≠ [] := by rw [H.tb]; exact List.length_pos_iff.1 H.hb
 have l0 : ((ldL b : Int) : Rat) ≠ 0 := fun h => ldL_ne hb0 (cast_zero.1 h)
 have hlt := (psD_ok (a := a) (b := b) hb0).lt
 rw [H.tb] at hlt
 have hab := H.hab
 obtain ⟨κ, hκ, hκe⟩ := H.inv (b.length - 1 - 1) (by omega) (by omega)
 have hRc : po (tr (psD a b).2) = fun e => ((coL (psD a b).2 : Int) : Rat) * po (ppL (psD a b).2) e := po_scale _ _ _ fun t => by rw [cf_tr, ppL_mul _ t, cf_scL]
 have hp := pow_ne l0 (a.length - 1 - (b.length - 1) + 1)
 refine ⟨b.length - 1 - 1, ?_⟩
 have key : ∀ t, ((coL (psD a b).2 : Int) : Rat) * po (ppL (psD a b).2) t = (Go.Dt.sg (a.length - 1 - (b.length - 1) + 1) * κ) * ((subZ a0 b0 m0 n0 (b.length - 1 - 1) t : Int) : Rat) := fun t => by
  have h1 := sub_rest (A := po a) (B := po b) (m := a.length - 1) (n := b.length - 1) t po_top (fun e he => po_ge (by omega)) hR hf (by omega) (by omega)
  rw [ldL_po H.tb, hκe t, sub_cast] at h1
  have h2 : po (tr (psD a b).2) t = ((coL (psD a b).2 : Int) : Rat) * po (ppL (psD a b).2) t := by rw [hRc]
  rw [h2] at h1
  obtain ⟨L, hL⟩ : ∃ L, L = ((ldL b : Int) : Rat) ^ (a.length - 1 - (b.length - 1) + 1) := ⟨_, rfl⟩
  rw [← hL] at h1 hp
  obtain ⟨s, hs⟩ : ∃ s, s = Go.Dt.sg (a.length - 1 - (b.length - 1) + 1) := ⟨_, rfl⟩
  have ss : s * s = 1 := by rw [hs]; exact sg_sq _
  rw [← hs] at h1 ⊢
  obtain ⟨Z, hZ⟩ : ∃ Z, Z = ((subZ a0 b0 m0 n0 (b.length - 1 - 1) t : Int) : Rat) := ⟨_, rfl⟩
  rw [← hZ] at h1 ⊢
  obtain ⟨Q, hQ⟩ : ∃ Q, Q = ((coL (psD a b).2 : Int) : Rat) * po (ppL (psD a b).2) t := ⟨_, rfl⟩
  rw [← hQ] at h1 ⊢
  have : L * (s * κ * Z - Q) = 0 := by grind
  rcases Rat.mul_eq_zero.1 this with e | e
  · exact absurd e hp
  · grind
 have c0 : (coL (psD a b).2 : Int) ≠ 0 := fun h => hn (coL_zero.1 h)
 obtain ⟨u, v, hu, huv⟩ := rat_frac (Go.Dt.sg (a.length - 1 - (b.length - 1) + 1) * κ)
 refine prim_le (gcL_pp hn) (u := u * coL (psD a b).2) (v := v) (S := fun t => subZ a0 b0 m0 n0 (b.length - 1 - 1) t) (Int.mul_ne_zero hu c0) (fun t => ?_) t
 refine cast_inj ?_
 have h1 := key t
 push_cast
 have h2 : ((cf (ppL (psD a b).2) t : Int) : Rat) = po (ppL (psD a b).2) t := rfl
 rw [h2, ← huv]
 grind
inductive Rch (x0 y0 : List Int) : List Int → List Int → Prop
 | first : Rch x0 y0 x0 y0
 | step (x y : List Int) (h : Rch x0 y0 x y) (hy : tr y ≠ []) : Rch x0 y0 y (ppL (psD x y).2)
theorem rch_lim {x0 y0 : List Int} (tx : tr x0 = x0) (ty : tr y0 = y0) (hxy : y0.length ≤ x0.length) {x y : List Int} (h : Rch x0 y0 x y) :
 tr x = x ∧ tr y = y ∧ x.length ≤ x0.length ∧ y.length ≤ x.length ∧ (y = [] ∨ PrI x0 y0 x y (x0.length - 1) (y0.length - 1)) ∧
  (∀ t, (cf x t).natAbs ≤ (cf x0 t).natAbs ∨ (cf x t).natAbs ≤ (cf y0 t).natAbs ∨ ∃ j, (cf x t).natAbs ≤ (subZ x0 y0 (x0.length - 1) (y0.length - 1) j t).natAbs) ∧
  (∀ t, (cf y t).natAbs ≤ (cf y0 t).natAbs ∨ ∃ j, (cf y t).natAbs ≤ (subZ x0 y0 (x0.length - 1) (y0.length - 1) j t).natAbs) := by
 induction h with
 | first =>
  refine ⟨tx, ty, Nat.le_refl _, hxy, ?_, fun t => .inl (Nat.le_refl _), fun t => .inl (Nat.le_refl _)⟩
  by_cases h0 : y0 = []
  · exact .inl h0
  · exact .inr (prI_first tx ty (List.length_pos_iff.2 h0) hxy)
 | step x y h hy ih =>
  obtain ⟨h1, h2, h3, h4, h5, h6, h7⟩ := ih
  have hlt := (psD_ok (a := x) (b := y) hy).lt
  rw [h2] at hlt
  have hl := ppL_len' (psD x y).2
  have hy' : y ≠ [] := by rw [← h2]; exact hy
  rcases h5 with h5 | h5
  · exact absurd h5 hy'
  refine ⟨h2, tr_ppL _, by omega, by omega, ?_, fun t => ?_, fun t => ?_⟩
  · by_cases h0 : tr (psD x y).2 = []
    · exact .inl (List.eq_nil_of_length_eq_zero (by rw [hl, h0]; rfl))
    · exact .inr (prI_step h5 (by have := List.length_pos_iff.2 h0; omega) h0)
  · rcases h7 t with h | h
    · exact .inr (.inl h)
    · exact .inr (.inr h)
  · by_cases h0 : tr (psD x y).2 = []
    · have : ppL (psD x y).2 = [] := List.eq_nil_of_length_eq_zero (by rw [hl, h0]; rfl)
      rw [this]
      exact .inl (by simp)
    · exact .inr (prI_lim h5 (by have := List.length_pos_iff.2 h0; omega) h0 t)
end Go.Dt
