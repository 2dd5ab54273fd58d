/- The row of subresultants: why its divisions leave no rest. -/
import Derived.Test.YtfdjbmamidmgfaaGreatPM
import Derived.Test.YtfdjbmamidmgfaaGreatPF
set_option linter.unusedVariables false
namespace Go.Dt
open Go.Py
def po (l : List Int) : Po := fun e => ((cf l e : Int) : Rat)
theorem cast_inj {x y : Int} (h : (x : Rat) = (y : Rat)) : x = y := by exact_mod_cast h
theorem cast_zero {x : Int} : (x : Rat) = 0 ↔ x = 0 := by
 constructor
 · intro h; exact cast_inj (by rw [h]; rfl)
 · rintro rfl; rfl
theorem po_ge {l : List Int} {e : Nat} (h : l.length ≤ e) : po l e = 0 := by unfold po; rw [cf_ge h]; rfl
theorem sp_mul (q b : List Int) : ∀ s, Sp (shs (po b) s) (fun e => -((cf (mulL (q.take s) b) e : Int) : Rat))
 | 0 => by
  rw [show (fun e => -((cf (mulL (q.take 0) b) e : Int) : Rat)) = fun _ => (0 : Rat) by
   funext e; rw [List.take_zero, mulL, cf_nil]; rfl]
  exact .zero
 | s + 1 => by
  have h := sp_mono (sp_mul q b s) (show s ≤ s + 1 by omega)
  rw [show (fun e => -((cf (mulL (q.take (s + 1)) b) e : Int) : Rat)) = fun e => -((cf (mulL (q.take s) b) e : Int) : Rat) + (-((cf q s : Int) : Rat)) * sh s (po b) e by
   funext e
   have ht : cf (mulL (q.take (s + 1)) b) e = cf (mulL (q.take s) b) e + if s ≤ e then cf q s * cf b (e - s) else 0 := by
    have h1 : Eqp (q.take (s + 1)) (addL (q.take s) (moL s (cf q s))) := take_succ_eqp q s
    rw [eqp_mulL_left b h1 e, mulL_addL_left _ _ _ e, cf_addL, cf_moL]
   rw [ht]
   unfold sh po
   split
   · push_cast; grind
   · push_cast; grind]
  exact .add _ _ _ h (mem_shs.2 ⟨s, by omega, rfl⟩)
theorem take_long {q : List Int} {s : Nat} (h : q.length ≤ s) : q.take s = q := List.take_of_length_le h
theorem Dt_int {L : List Po} (h : ∀ q ∈ L, ∃ f : Nat → Int, q = fun e => ((f e : Int) : Rat)) (cols : Nat → Nat) : ∃ z : Int, Dt L cols = (z : Rat) := by
 have hF : ∃ F : Nat → Nat → Int, ∀ r, r < L.length → rowAt L r = fun e => ((F r e : Int) : Rat) := by
  have each : ∀ r, ∃ f : Nat → Int, r < L.length → rowAt L r = fun e => ((f e : Int) : Rat) := by
   intro r
   by_cases hr : r < L.length
   · have hm : rowAt L r ∈ L := by simp [rowAt, List.getD_eq_getElem?_getD, List.getElem?_eq_getElem hr]
     obtain ⟨f, hf⟩ := h _ hm
     exact ⟨f, fun _ => hf⟩
   · exact ⟨fun _ => 0, fun h => absurd h hr⟩
  exact ⟨fun r => Classical.choose (each r), fun r => Classical.choose_spec (each r)⟩
 obtain ⟨F, hF⟩ := hF
 obtain ⟨z, hz⟩ := det_int (n := L.length) (M := fun r c => F r (cols c))
 refine ⟨z, ?_⟩
 rw [← hz, Dt]
 refine det_congr fun r c hr _ => ?_
 rw [hF r hr]
theorem sh_int (i : Nat) (l : List Int) : ∃ f : Nat → Int, sh i (po l) = fun e => ((f e : Int) : Rat) := by
 refine ⟨fun e => if i ≤ e then cf l (e - i) else 0, ?_⟩
 funext e
 unfold sh po
 dsimp only
 by_cases h : i ≤ e
 · rw [if_pos h, if_pos h]
 · rw [if_neg h, if_neg h]; rfl
theorem sub_int (a b : List Int) (m n j t : Nat) : ∃ z : Int, Sub (po a) (po b) m n j t = (z : Rat) := by
 refine Dt_int (fun q hq => ?_) _
 rcases List.mem_append.1 hq with h | h
 · obtain ⟨i, _, rfl⟩ := mem_shs.1 h
   exact sh_int i a
 · obtain ⟨i, _, rfl⟩ := mem_shs.1 h
   exact sh_int i b
structure SqI (a0 b0 a b : List Int) (m0 n0 : Nat) (g h : Int) (E : Nat → Rat) : Prop where
 ta : tr a = a
 tb : tr b = b
 hb : 1 ≤ b.length
 hab : b.length ≤ a.length
 g0 : g ≠ 0
 h0 : h ≠ 0
 flat : a.length = b.length → h = 1
 sg : ∀ j, E j = 1 ∨ E j = -1
 inv : ∀ j t, j + 1 ≤ b.length → j + 1 < a.length → Sub (po a) (po b) (a.length - 1) (b.length - 1) j t = E j * ((g : Rat) ^ (b.length - 1 - j) * (h : Rat) ^ (a.length - 1 - j - 1) * Sub (po a0) (po b0) m0 n0 j t)
theorem ps_rows {a b : List Int} (ta : tr a = a) (tb : tr b = b) (hb : 1 ≤ b.length) (hab : b.length ≤ a.length) :
 ∃ f, Sp (shs (po b) (a.length - 1 - (b.length - 1) + 1)) f ∧ po (tr (psD a b).2) = fun e => ((ldL b : Int) : Rat) ^ (a.length - 1 - (b.length - 1) + 1) * po a e + f e := by
 have hb0 : tr b ≠ [] := by rw [tb]; exact List.length_pos_iff.1 hb
 have hp := psD_ok (a := a) (b := b) hb0
 have he := hp.eq
 rw [ta, tb] at he
 have hlt := hp.lt
 rw [tb] at hlt
 obtain ⟨q, hq⟩ : ∃ q, q = tr (psD a b).1 := ⟨_, rfl⟩
 have he2 : Eqp (scL (ldL b ^ (a.length + 1 - b.length)) a) (addL (mulL q b) (tr (psD a b).2)) := he.trans (eqp_addL (eqp_mulL_left b (by rw [hq]; exact (cf_tr _).symm)) (cf_tr _).symm)
 have hql : q.length ≤ a.length + 1 - b.length := by
  by_cases h0 : q = []
  · rw [h0]; simp
  · have tq : tr q = q := by rw [hq, tr_tr]
    have h2 := tr_mulL_len (a := q) (b := b) (by rw [tq]; exact h0) hb0
    rw [tq, tb] at h2
    have h3 : (tr (mulL q b)).length ≤ a.length := by
     rcases Nat.lt_or_ge a.length (tr (mulL q b)).length with h | h
     · exfalso
       have hl := tr_last (mulL q b) (List.length_pos_iff.1 (by omega))
       rw [cf_tr] at hl
       have := he2 ((tr (mulL q b)).length - 1)
       rw [cf_scL, cf_addL, cf_ge (l := a) (by omega), cf_ge (l := tr (psD a b).2) (by omega)] at this
       omega
     · exact h
    omega
 refine ⟨_, sp_mul q b (a.length - 1 - (b.length - 1) + 1), ?_⟩
 rw [take_long (by omega)]
 funext e
 have h1 := he2 e
 rw [cf_scL, cf_addL] at h1
 unfold po
 have h2 : cf (tr (psD a b).2) e = ldL b ^ (a.length + 1 - b.length) * cf a e - cf (mulL q b) e := by omega
 rw [h2, show a.length - 1 - (b.length - 1) + 1 = a.length + 1 - b.length by omega]
 push_cast
 grind
theorem po_top {b : List Int} : ∀ e, b.length - 1 < e → po b e = 0 := fun e h => po_ge (by omega)
theorem ldL_po {b : List Int} (tb : tr b = b) : po b (b.length - 1) = ((ldL b : Int) : Rat) := by unfold po; rw [ldL, tb]
theorem sq_exact {a0 b0 a b : List Int} {m0 n0 : Nat} {g h : Int} {E : Nat → Rat} (H : SqI a0 b0 a b m0 n0 g h E) (hb2 : 2 ≤ b.length) (t : Nat) : ∃ z : Int, cf (tr (psD a b).2) t = g * h ^ (a.length - b.length) * z := by
 obtain ⟨f, hf, hR⟩ := ps_rows H.ta H.tb H.hb H.hab
 have hb0 : tr b ≠ [] := by rw [H.tb]; exact List.length_pos_iff.1 H.hb
 have l0 : ((ldL b : Int) : Rat) ≠ 0 := fun h => ldL_ne hb0 (cast_zero.1 h)
 have hlt := (psD_ok (a := a) (b := b) hb0).lt
 rw [H.tb] at hlt
 have hab := H.hab
 have h1 := sub_rest (A := po a) (B := po b) (m := a.length - 1) (n := b.length - 1) t po_top (fun e he => po_ge (by omega)) hR hf (by omega) (by omega)
 rw [ldL_po H.tb] at h1
 have h2 := H.inv (b.length - 1 - 1) t (by omega) (by omega)
 obtain ⟨z, hz⟩ := sub_int a0 b0 m0 n0 (b.length - 1 - 1) t
 rw [hz, show b.length - 1 - (b.length - 1 - 1) = 1 by omega, show a.length - 1 - (b.length - 1 - 1) - 1 = a.length - b.length by omega] at h2
 rw [h2] at h1
 have hp := pow_ne l0 (a.length - 1 - (b.length - 1) + 1)
 have e1 : E (b.length - 1 - 1) * ((g : Rat) ^ 1 * (h : Rat) ^ (a.length - b.length) * (z : Rat)) = Go.Dt.sg (a.length - 1 - (b.length - 1) + 1) * po (tr (psD a b).2) t := by
  have : ((ldL b : Int) : Rat) ^ (a.length - 1 - (b.length - 1) + 1) * (E (b.length - 1 - 1) * ((g : Rat) ^ 1 * (h : Rat) ^ (a.length - b.length) * (z : Rat)) - Go.Dt.sg (a.length - 1 - (b.length - 1) + 1) * po (tr (psD a b).2) t) = 0 := by grind
  rcases Rat.mul_eq_zero.1 this with h | h
  · exact absurd h hp
  · grind
 have e2 : ∃ y : Int, po (tr (psD a b).2) t = ((g * h ^ (a.length - b.length) * y : Int) : Rat) := by
  have s1 : Go.Dt.sg (a.length - 1 - (b.length - 1) + 1) = 1 ∨ Go.Dt.sg (a.length - 1 - (b.length - 1) + 1) = -1 := by unfold Go.Dt.sg; split <;> simp
  rcases s1 with s1 | s1 <;> rcases H.sg (b.length - 1 - 1) with s2 | s2 <;> rw [s1, s2] at e1
  · exact ⟨z, by push_cast; grind⟩
  · exact ⟨-z, by push_cast; grind⟩
  · exact ⟨-z, by push_cast; grind⟩
  · exact ⟨z, by push_cast; grind⟩
 obtain ⟨y, hy⟩ := e2
 exact ⟨y, cast_inj hy⟩
theorem rpow_add (x : Rat) (a : Nat) : ∀ b : Nat, x ^ (a + b) = x ^ a * x ^ b
 | 0 => by rw [Nat.add_zero, Rat.pow_zero]; grind
 | b + 1 => by rw [← Nat.add_assoc, Rat.pow_succ, rpow_add x a b, Rat.pow_succ]; grind
theorem rmul_pow (x y : Rat) : ∀ k : Nat, (x * y) ^ k = x ^ k * y ^ k
 | 0 => by rw [Rat.pow_zero, Rat.pow_zero, Rat.pow_zero]; grind
 | k + 1 => by rw [Rat.pow_succ, rmul_pow x y k, Rat.pow_succ, Rat.pow_succ]; grind
theorem rpow_mul (x : Rat) (a : Nat) : ∀ b : Nat, x ^ (a * b) = (x ^ a) ^ b
 | 0 => by rw [Nat.mul_zero, Rat.pow_zero, Rat.pow_zero]
 | b + 1 => by rw [Nat.mul_succ, rpow_add, rpow_mul x a b, Rat.pow_succ]
theorem pow_key (l h h' : Rat) (d u w : Nat) (hu : 1 ≤ u) (hw : w ≤ u) (hd : 1 ≤ d) (e : h' * h ^ (d - 1) = l ^ d) : l ^ ((d + 1) * u) * h ^ (d + u - 1) = l ^ (d + u - w) * h ^ (d * u) * (l ^ w * h' ^ (u - 1)) := by
 obtain ⟨v, rfl⟩ : ∃ v, u = v + 1 := ⟨u - 1, by omega⟩
 obtain ⟨c, rfl⟩ : ∃ c, d = c + 1 := ⟨d - 1, by omega⟩
 rw [Nat.add_sub_cancel] at e
 rw [Nat.add_sub_cancel]
 have e1 : h ^ ((c + 1) * (v + 1)) = (h ^ c) ^ v * h ^ (c + 1 + (v + 1) - 1) := by
  rw [show (c + 1) * (v + 1) = c * v + (c + 1 + (v + 1) - 1) by rw [Nat.add_mul, Nat.mul_add]; omega, rpow_add, rpow_mul]
 have e2 : h' ^ v * (h ^ c) ^ v = l ^ ((c + 1) * v) := by rw [← rmul_pow, e, rpow_mul]
 have e3 : l ^ (c + 1 + (v + 1) - w) * l ^ w = l ^ (c + 1 + (v + 1)) := by rw [← rpow_add]; congr 1; omega
 have e4 : l ^ ((c + 1 + 1) * (v + 1)) = l ^ (c + 1 + (v + 1)) * l ^ ((c + 1) * v) := by
  rw [← rpow_add]; congr 1
  rw [Nat.add_mul (c + 1) 1, Nat.mul_add, Nat.mul_one]; omega
 rw [e1, e4, ← e2, ← e3]
 grind
theorem sq_h {a0 b0 a b : List Int} {m0 n0 : Nat} {g h : Int} {E : Nat → Rat} (H : SqI a0 b0 a b m0 n0 g h E) (hlt : b.length < a.length) : ∃ h' : Int, h' * h ^ (a.length - b.length - 1) = ldL b ^ (a.length - b.length) := by
 have hb := H.hb
 have h1 := sub_deg (A := po a) (B := po b) (m := a.length - 1) (n := b.length - 1) (b.length - 1) po_top (by omega)
 rw [ldL_po H.tb] at h1
 have h2 := H.inv (b.length - 1) (b.length - 1) (by omega) (by omega)
 obtain ⟨z, hz⟩ := sub_int a0 b0 m0 n0 (b.length - 1) (b.length - 1)
 rw [hz, h1, Nat.sub_self, Rat.pow_zero, show a.length - 1 - (b.length - 1) - 1 = a.length - b.length - 1 by omega] at h2
 have e : ((ldL b : Int) : Rat) ^ (a.length - b.length - 1) * ((ldL b : Int) : Rat) = ((ldL b ^ (a.length - b.length) : Int) : Rat) := by
  obtain ⟨c, hc⟩ : ∃ c, a.length - b.length = c + 1 := ⟨a.length - b.length - 1, by omega⟩
  rw [hc, Nat.add_sub_cancel, Int.pow_succ]
  push_cast
  rfl
 rw [e] at h2
 rcases H.sg (b.length - 1) with s | s <;> rw [s] at h2
 · exact ⟨z, cast_inj (by push_cast; push_cast at h2; grind)⟩
 · exact ⟨-z, cast_inj (by push_cast; push_cast at h2; grind)⟩
theorem sq_step {a0 b0 a b b' : List Int} {m0 n0 : Nat} {g h h' : Int} {E : Nat → Rat} (H : SqI a0 b0 a b m0 n0 g h E) (hb2 : 2 ≤ b.length) (tb' : tr b' = b') (hb' : 1 ≤ b'.length)
 (hr : ∀ t, cf (tr (psD a b).2) t = g * h ^ (a.length - b.length) * cf b' t) (hh : a.length = b.length ∧ h' = h ∨ b.length < a.length ∧ h' * h ^ (a.length - b.length - 1) = ldL b ^ (a.length - b.length)) :
 SqI a0 b0 b b' m0 n0 (ldL b) h' (fun j => E j * Go.Dt.sg ((b.length - 1 - j) * (a.length - 1 - j))) := by
 obtain ⟨f, hf, hR⟩ := ps_rows H.ta H.tb H.hb H.hab
 have hb0 : tr b ≠ [] := by rw [H.tb]; exact List.length_pos_iff.1 H.hb
 have lz := ldL_ne hb0
 have l0 : ((ldL b : Int) : Rat) ≠ 0 := fun h => lz (cast_zero.1 h)
 have hlt := (psD_ok (a := a) (b := b) hb0).lt
 rw [H.tb] at hlt
 have hab := H.hab
 have c0 : g * h ^ (a.length - b.length) ≠ 0 := Int.mul_ne_zero H.g0 (Int.pow_ne_zero H.h0)
 have hl' : b'.length < b.length := by
  have e : Eqp (tr (psD a b).2) (scL (g * h ^ (a.length - b.length)) b') := fun t => by rw [hr, cf_scL]
  have := tr_of_eqp e
  have h2 := tr_scL c0 b'
  rw [← this, tr_tr, tb'] at h2
  omega
 have hz : h' ≠ 0 := by
  rcases hh with ⟨_, e⟩ | ⟨_, e⟩
  · rw [e]; exact H.h0
  · intro h0
    rw [h0, Int.zero_mul] at e
    exact Int.pow_ne_zero lz e.symm
 refine ⟨H.tb, tb', hb', by omega, lz, hz, by omega, fun j => ?_, fun j t hj1 hj2 => ?_⟩
 · have : Go.Dt.sg ((b.length - 1 - j) * (a.length - 1 - j)) = 1 ∨ Go.Dt.sg ((b.length - 1 - j) * (a.length - 1 - j)) = -1 := by unfold Go.Dt.sg; split <;> simp
   rcases H.sg j with s | s <;> rcases this with s2 | s2 <;> rw [s, s2] <;> grind
 · have h1 := sub_step (A := po a) (B := po b) (m := a.length - 1) (n := b.length - 1) (k := b'.length - 1) (j := j) t po_top (fun e he => by
    show ((cf (tr (psD a b).2) e : Int) : Rat) = 0
    rw [hr, cf_ge (l := b') (by omega), Int.mul_zero]; rfl) hR hf (by omega) (by omega) (by omega)
   have hRc : po (tr (psD a b).2) = fun e => ((g * h ^ (a.length - b.length) : Int) : Rat) * po b' e := by
    funext e; unfold po; rw [hr]; push_cast; rfl
   rw [ldL_po H.tb, hRc, sub_scale, H.inv j t (by omega) (by omega)] at h1
   obtain ⟨S0, hS⟩ : ∃ S, S = Sub (po a0) (po b0) m0 n0 j t := ⟨_, rfl⟩
   obtain ⟨X, hX⟩ : ∃ S, S = Sub (po b) (po b') (b.length - 1) (b'.length - 1) j t := ⟨_, rfl⟩
   rw [← hS, ← hX] at h1
   rw [← hS, ← hX]
   obtain ⟨u, hu⟩ : ∃ u, u = b.length - 1 - j := ⟨_, rfl⟩
   obtain ⟨d, hd⟩ : ∃ d, d = a.length - b.length := ⟨_, rfl⟩
   obtain ⟨w, hw⟩ : ∃ w, w = b'.length - 1 - j := ⟨_, rfl⟩
   obtain ⟨s, hs⟩ : ∃ s, s = Go.Dt.sg ((b.length - 1 - j) * (a.length - 1 - j)) := ⟨_, rfl⟩
   have ss : s * s = 1 := by rw [hs]; exact sg_sq _
   rw [← hs] at h1 ⊢
   rw [← hu, ← hw]
   rw [← hu, ← hd, show a.length - 1 - (b.length - 1) + 1 = d + 1 by omega, show a.length - 1 - j - 1 = d + u - 1 by omega, show a.length - 1 - (b'.length - 1) = d + u - w by omega, ← rpow_mul] at h1
   have hcu : ((g * h ^ d : Int) : Rat) ^ u = (g : Rat) ^ u * (h : Rat) ^ (d * u) := by
    push_cast
    rw [rmul_pow, rpow_mul]
   rw [hcu] at h1
   have key : ((ldL b : Int) : Rat) ^ ((d + 1) * u) * (h : Rat) ^ (d + u - 1) = ((ldL b : Int) : Rat) ^ (d + u - w) * (h : Rat) ^ (d * u) * (((ldL b : Int) : Rat) ^ w * (h' : Rat) ^ (u - 1)) := by
    rcases hh with ⟨he, e⟩ | ⟨he, e⟩
    · have h1' := H.flat he
      have d0 : d = 0 := by omega
      rw [e, h1', d0]
      simp only [Nat.zero_add, Nat.one_mul, Nat.zero_mul]
      have one : ∀ k : Nat, (((1 : Int) : Rat)) ^ k = 1 := fun k => by
       induction k with
       | zero => rw [Rat.pow_zero]
       | succ k ih => rw [Rat.pow_succ, ih]; grind
      simp only [one]
      have := rpow_add ((ldL b : Int) : Rat) (u - w) w
      rw [show u - w + w = u by omega] at this
      rw [this]; grind
    · refine pow_key _ _ _ d u w (by omega) (by omega) (by omega) ?_
      rw [← hd] at e
      exact_mod_cast congrArg (fun z : Int => (z : Rat)) e
   obtain ⟨l1, hl1⟩ : ∃ x, x = ((ldL b : Int) : Rat) ^ (d + u - w) := ⟨_, rfl⟩
   obtain ⟨l2, hl2⟩ : ∃ x, x = ((ldL b : Int) : Rat) ^ ((d + 1) * u) := ⟨_, rfl⟩
   obtain ⟨g1, hg1⟩ : ∃ x, x = (g : Rat) ^ u := ⟨_, rfl⟩
   obtain ⟨h2, hh2⟩ : ∃ x, x = (h : Rat) ^ (d * u) := ⟨_, rfl⟩
   obtain ⟨h3, hh3⟩ : ∃ x, x = (h : Rat) ^ (d + u - 1) := ⟨_, rfl⟩
   obtain ⟨T, hT⟩ : ∃ x, x = ((ldL b : Int) : Rat) ^ w * (h' : Rat) ^ (u - 1) := ⟨_, rfl⟩
   rw [← hl1, ← hl2, ← hh2, ← hh3, ← hT] at key
   rw [← hl1, ← hl2, ← hg1, ← hh2, ← hh3] at h1
   rw [← hT]
   have hP : l1 * g1 * h2 ≠ 0 := by
    intro e
    rcases Rat.mul_eq_zero.1 e with e | e
    · rcases Rat.mul_eq_zero.1 e with e | e
      · rw [hl1] at e; exact pow_ne l0 _ e
      · rw [hg1] at e; exact pow_ne (fun h => H.g0 (cast_zero.1 h)) _ e
    · rw [hh2] at e; exact pow_ne (fun h => H.h0 (cast_zero.1 h)) _ e
   have hz0 : l1 * g1 * h2 * (s * X - E j * S0 * T) = 0 := by grind
   rcases Rat.mul_eq_zero.1 hz0 with e | e
   · exact absurd e hP
   · grind
theorem sq_end {a0 b0 a b : List Int} {m0 n0 : Nat} {g h : Int} {E : Nat → Rat} (H : SqI a0 b0 a b m0 n0 g h E) (hb1 : b.length = 1) (ha : 2 ≤ a.length) :
 (((ldL b) ^ (a.length - 1) : Int) : Rat) = E 0 * ((h : Rat) ^ (a.length - 1 - 1) * Sub (po a0) (po b0) m0 n0 0 0) := by
 have h1 := sub_deg (A := po a) (B := po b) (m := a.length - 1) (n := b.length - 1) 0 po_top (by omega)
 have h2 := H.inv 0 0 (by omega) (by omega)
 have e0 : po b 0 = ((ldL b : Int) : Rat) := by
  have := ldL_po H.tb
  rw [hb1] at this
  exact this
 have e1 := ldL_po H.tb
 rw [hb1] at h1 h2
 rw [hb1] at e1
 simp only [Nat.sub_self, Nat.sub_zero, Rat.pow_zero] at h1 h2 e1
 rw [h1, e0] at h2
 obtain ⟨c, hc⟩ : ∃ c, a.length - 1 = c + 1 := ⟨a.length - 2, by omega⟩
 rw [hc] at h2 ⊢
 rw [Nat.add_sub_cancel] at h2 ⊢
 rw [Int.pow_succ]
 push_cast
 rw [h2]
 grind
theorem sq_nil {a0 b0 a b : List Int} {m0 n0 : Nat} {g h : Int} {E : Nat → Rat} (H : SqI a0 b0 a b m0 n0 g h E) (hb2 : 2 ≤ b.length) (h0 : tr (psD a b).2 = []) :
 Sub (po a0) (po b0) m0 n0 0 0 = 0 := by
 obtain ⟨f, hf, hR⟩ := ps_rows H.ta H.tb H.hb H.hab
 have hb0 : tr b ≠ [] := by rw [H.tb]; exact List.length_pos_iff.1 H.hb
 have l0 : ((ldL b : Int) : Rat) ≠ 0 := fun h => ldL_ne hb0 (cast_zero.1 h)
 have hab := H.hab
 have z : po (tr (psD a b).2) = fun _ => 0 := by funext e; rw [h0]; exact po_ge (by simp)
 rw [z] at hR
 have h1 := sub_zero (A := po a) (B := po b) (m := a.length - 1) (n := b.length - 1) (j := 0) 0 hR hf (by omega) (by omega) (pow_ne l0 _)
 rw [H.inv 0 0 (by omega) (by omega)] at h1
 have gp := pow_ne (fun h => H.g0 (cast_zero.1 h)) (L := (g : Rat)) (b.length - 1 - 0)
 have hp := pow_ne (fun h => H.h0 (cast_zero.1 h)) (L := (h : Rat)) (a.length - 1 - 0 - 1)
 have en : E 0 ≠ 0 := by rcases H.sg 0 with e | e <;> rw [e] <;> grind
 rcases Rat.mul_eq_zero.1 h1 with e | e
 · exact absurd e en
 · rcases Rat.mul_eq_zero.1 e with e | e
   · rcases Rat.mul_eq_zero.1 e with e | e
     · exact absurd e gp
     · exact absurd e hp
   · exact e
theorem sub_swap (A B : Po) (m n j t : Nat) : Sub B A n m j t = sg ((n - j) * (m - j)) * Sub A B m n j t := by
 have h := sub_flip A B m n j t
 have e : Dt (shs B (m - j) ++ shs A (n - j)) (colf (m + n - j - 1) t (m + n - 2 * j)) = Sub B A n m j t := by
  rw [Sub, Nat.add_comm n m]
 rw [e] at h
 rw [h]
 have s2 := sg_sq ((n - j) * (m - j))
 grind
theorem sub_scale_left (A B : Po) (c : Rat) (m n j t : Nat) : Sub (fun e => c * A e) B m n j t = c ^ (n - j) * Sub A B m n j t := by
 have h1 := sub_swap B (fun e => c * A e) n m j t
 have h2 := sub_swap A B m n j t
 rw [h1, sub_scale, h2, Nat.mul_comm (m - j)]
 have s2 := sg_sq ((n - j) * (m - j))
 grind
end Go.Dt
