/- Polynomials over the integers: quotients; the plain laws. -/
import Derived.Test.YtfdjbmamidmgfaaGreatPB
set_option linter.unusedVariables false
namespace Go.Py
def moL (n : Nat) (c : Int) : List Int := List.replicate n 0 ++ [c]
theorem moL_zero (c : Int) : moL 0 c = [c] := rfl
theorem moL_succ (n : Nat) (c : Int) : moL (n + 1) c = 0 :: moL n c := rfl
theorem cf_moL (c : Int) (b : List Int) : ∀ (n j : Nat), cf (mulL (moL n c) b) j = if n ≤ j then c * cf b (j - n) else 0
 | 0, j => by
  rw [moL_zero]
  show cf (addL (scL c b) (0 :: mulL [] b)) j = _
  rw [cf_addL, cf_scL, mulL, if_pos (by omega)]
  cases j <;> simp
 | n + 1, j => by
  rw [moL_succ, mulL_shift _ _ j]
  cases j with
  | zero => simp
  | succ j => rw [cf_succ, cf_moL c b n j]; simp [Nat.succ_sub_succ]
open Classical in
noncomputable def pq (a b : List Int) : Option (List Int) := if h : ∃ q, Eqp a (mulL q b) then some (tr h.choose) else none
theorem pq_some {a b q : List Int} (hb : tr b ≠ []) (h : Eqp a (mulL q b)) : pq a b = some (tr q) := by
 have hx : ∃ q, Eqp a (mulL q b) := ⟨q, h⟩
 rw [pq, dif_pos hx]
 exact congrArg some (tr_of_eqp (mulL_cancel hb (hx.choose_spec.symm.trans h)))
theorem pq_none {a b : List Int} (h : ∀ q, ¬ Eqp a (mulL q b)) : pq a b = none := by
 rw [pq, dif_neg]
 rintro ⟨q, hq⟩
 exact h q hq
theorem pq_inv {a b q : List Int} (h : pq a b = some q) : Eqp a (mulL q b) ∧ tr q = q := by
 rw [pq] at h
 split at h
 · rename_i hx
   simp only [Option.some.injEq] at h
   rw [← h]
   exact ⟨hx.choose_spec.trans (eqp_mulL_left b (cf_tr _).symm), tr_tr _⟩
 · cases h
theorem pq_noneinv {a b : List Int} (h : pq a b = none) : ∀ q, ¬ Eqp a (mulL q b) := by
 intro q hq
 rw [pq, dif_pos ⟨q, hq⟩] at h
 cases h
def Rst (a b q r : List Int) : Prop := Eqp a (addL (mulL q b) r)
theorem rst_eqp {a b q q' r r' : List Int} (h : Rst a b q r) (hq : Eqp q q') (hr : Eqp r r') : Rst a b q' r' :=
 h.trans (eqp_addL (eqp_mulL_left b hq) hr)
theorem rst_step {a b q r r' : List Int} {n : Nat} {c : Int} (h : Rst a b q r) (hr : ∀ j, cf r' j = cf r j - (if n ≤ j then c * cf b (j - n) else 0)) : Rst a b (addL q (moL n c)) r' := by
 intro j
 rw [h j, cf_addL, cf_addL, mulL_addL_left _ _ _ j, cf_addL, cf_moL, hr j]
 omega
theorem rst_end {a b q r : List Int} (hb : tr b ≠ []) (h : Rst a b q r) (hr : tr r = []) : pq a b = some (tr q) := by
 refine pq_some hb (h.trans fun i => ?_)
 rw [cf_addL, (tr_nil_iff r).1 hr i]; omega
theorem rst_none {a b q r : List Int} (hb : tr b ≠ []) (h : Rst a b q r) (hr : tr r ≠ []) (hn : (tr r).length < (tr b).length ∨ cf r ((tr r).length - 1) % cf b ((tr b).length - 1) ≠ 0) : pq a b = none := by
 refine pq_none fun Q hQ => ?_
 have lr := List.length_pos_iff.2 hr
 have lb := List.length_pos_iff.2 hb
 have e : Eqp r (mulL (addL Q (scL (-1) q)) b) := by
  intro i
  have h1 := h i
  have h2 := hQ i
  rw [cf_addL] at h1
  rw [mulL_addL_left _ _ _ i, cf_addL, mulL_scL _ _ _ i, cf_scL]
  omega
 obtain ⟨D, hD⟩ : ∃ d, d = addL Q (scL (-1) q) := ⟨_, rfl⟩
 rw [← hD] at e
 have hD0 : tr D ≠ [] := by
  intro hz
  exact hr ((tr_of_eqp e).trans (tr_mulL_nil.2 (.inl hz)))
 have lD := List.length_pos_iff.2 hD0
 have hlen : (tr r).length = (tr D).length + (tr b).length - 1 := by rw [tr_of_eqp e]; exact tr_mulL_len hD0 hb
 rcases hn with hn | hn
 · omega
 · have hs := (div_step (n := (tr r).length - (tr b).length) hb e (fun i hi => by rw [← cf_tr r i]; exact cf_ge (by omega))).1
   rw [show (tr r).length - (tr b).length + (tr b).length - 1 = (tr r).length - 1 by omega, cf_tr b] at hs
   rw [hs] at hn
   exact hn (Int.mul_emod_left _ _)
theorem rst_place {a b q r : List Int} {n : Nat} (hb : tr b ≠ []) (h : Rst a b q r) (hz : ∀ i, n + (tr b).length ≤ i → cf r i = 0) (hm : cf r (n + (tr b).length - 1) % cf b ((tr b).length - 1) ≠ 0) : pq a b = none := by
 have lb := List.length_pos_iff.2 hb
 have h0 : cf r (n + (tr b).length - 1) ≠ 0 := by
  intro h; rw [h] at hm; simp at hm
 have hl := tr_len_of (l := r) (n := n + (tr b).length - 1) h0 (fun i hi => hz i (by omega))
 refine rst_none hb h (fun e => by rw [e] at hl; simp at hl) (.inr ?_)
 rw [hl, Nat.add_sub_cancel]
 exact hm
theorem rst_less {b r r' : List Int} {n : Nat} (hb : tr b ≠ []) (hz : ∀ i, n + (tr b).length ≤ i → cf r i = 0) (hm : cf r (n + (tr b).length - 1) % cf b ((tr b).length - 1) = 0)
 (hr : ∀ j, cf r' j = cf r j - (if n ≤ j then cf r (n + (tr b).length - 1) / cf b ((tr b).length - 1) * cf b (j - n) else 0)) : ∀ i, n + (tr b).length - 1 ≤ i → cf r' i = 0 := by
 have lb := List.length_pos_iff.2 hb
 intro i hi
 rw [hr i, if_pos (by omega)]
 rcases Nat.lt_or_ge (n + (tr b).length - 1) i with h1 | h1
 · have hb0 : cf b (i - n) = 0 := by rw [← cf_tr b]; exact cf_ge (by omega)
   rw [hz i (by omega), hb0]; simp
 · obtain rfl : i = n + (tr b).length - 1 := by omega
   rw [show n + (tr b).length - 1 - n = (tr b).length - 1 by omega, Int.ediv_mul_cancel (Int.dvd_of_emod_eq_zero hm)]; omega
end Go.Py
