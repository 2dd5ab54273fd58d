/- The row of subresultants: why its divisions leave no rest. -/
import Derived.Test.YtfdjbmamidmgfaaGreatPM
import Derived.Test.YtfdjbmamidmgfaaGreatPF
set_option linter.unusedVariables false
namespace Go.Dt
open Go.Py
def po (l : List Int) : Po := fun e => ((cf l e : Int) : Rat)
theorem cast_inj {x y : Int} (h : (x : Rat) = (y : Rat)) : x = y := by exact_mod_cast h
theorem cast_zero {x : Int} : (x : Rat) = 0 ↔ x = 0 := by
 constructor
 · intro h; exact cast_inj (by rw [h]; rfl)
 · rintro rfl; rfl
theorem po_ge {l : List Int} {e : Nat} (h : l.length ≤ e) : po l e = 0 := by unfold po; rw [cf_ge h]; rfl
theorem sp_mul (q b : List Int) : ∀ s, Sp (shs (po b) s) (fun e => -((cf (mulL (q.take s) b) e : Int) : Rat))
 | 0 => by
  rw [show (fun e => -((cf (mulL (q.take 0) b) e : Int) : Rat)) = fun _ => (0 : Rat) by
   funext e; rw [List.take_zero, mulL, cf_nil]; rfl]
  exact .zero
 | s + 1 => by
  have h := sp_mono (sp_mul q b s) (show s ≤ s + 1 by omega)
  rw [show (fun e => -((cf (mulL (q.take (s + 1)) b) e : Int) : Rat)) = fun e => -((cf (mulL (q.take s) b) e : Int) : Rat) + (-((cf q s : Int) : Rat)) * sh s (po b) e by
   funext e
   have ht : cf (mulL (q.take (s + 1)) b) e = cf (mulL (q.take s) b) e + if s ≤ e then cf q s * cf b (e - s) else 0 := by
    have h1 : Eqp (q.take (s + 1)) (addL (q.take s) (moL s (cf q s))) := take_succ_eqp q s
    rw [eqp_mulL_left b h1 e, mulL_addL_left _ _ _ e, cf_addL, cf_moL]
   rw [ht]
   unfold sh po
   split
   · push_cast; grind
   · push_cast; grind]
  exact .add _ _ _ h (mem_shs.2 ⟨s, by omega, rfl⟩)
theorem take_long {q : List Int} {s : Nat} (h : q.length ≤ s) : q.take s = q := List.take_of_length_le h
theorem ps_rows {a b : List Int} (ta : tr a = a) (tb : tr b = b) (hb : 1 ≤ b.length) (hab : b.length ≤ a.length) :
 ∃ f, Sp (shs (po b) (a.length - 1 - (b.length - 1) + 1)) f ∧ po (tr (psD a b).2) = fun e => ((ldL b : Int) : Rat) ^ (a.length - 1 - (b.length - 1) + 1) * po a e + f e := by
 have hb0 : tr b ≠ [] := by rw [tb]; exact List.length_pos_iff.1 hb
 have hp := psD_ok (a := a) (b := b) hb0
 have he := hp.eq
 rw [ta, tb] at he
 have hlt := hp.lt
 rw [tb] at hlt
 obtain ⟨q, hq⟩ : ∃ q, q = tr (psD a b).1 := ⟨_, rfl⟩
 have he2 : Eqp (scL (ldL b ^ (a.length + 1 - b.length)) a) (addL (mulL q b) (tr (psD a b).2)) := he.trans (eqp_addL (eqp_mulL_left b (by rw [hq]; exact (cf_tr _).symm)) (cf_tr _).symm)
 have hql : q.length ≤ a.length + 1 - b.length := by
  by_cases h0 : q = []
  · rw [h0]; simp
  · have tq : tr q = q := by rw [hq, tr_tr]
    have h2 := tr_mulL_len (a := q) (b := b) (by rw [tq]; exact h0) hb0
    rw [tq, tb] at h2
    have h3 : (tr (mulL q b)).length ≤ a.length := by
     rcases Nat.lt_or_ge a.length (tr (mulL q b)).length with h | h
     · exfalso
       have hl := tr_last (mulL q b) (List.length_pos_iff.1 (by omega))
       rw [cf_tr] at hl
       have := he2 ((tr (mulL q b)).length - 1)
       rw [cf_scL, cf_addL, cf_ge (l := a) (by omega), cf_ge (l := tr (psD a b).2) (by omega)] at this
       omega
     · exact h
    omega
 refine ⟨_, sp_mul q b (a.length - 1 - (b.length - 1) + 1), ?_⟩
 rw [take_long (by omega)]
 funext e
 have h1 := he2 e
 rw [cf_scL, cf_addL] at h1
 unfold po
 have h2 : cf (tr (psD a b).2) e = ldL b ^ (a.length + 1 - b.length) * cf a e - cf (mulL q b) e := by omega
 rw [h2, show a.length - 1 - (b.length - 1) + 1 = a.length + 1 - b.length by omega]
 push_cast
 grind
theorem po_top {b : List Int} : ∀ e, b.length - 1 < e → po b e = 0 := fun e h => po_ge (by omega)
theorem ldL_po {b : List Int} (tb : tr b = b) : po b (b.length - 1) = ((ldL b : Int) : Rat) := by unfold po; rw [ldL, tb]
end Go.Dt
