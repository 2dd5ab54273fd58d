/- Polynomials over the integers: shifts, contents, quotients; the plain laws. -/
import Derived.Test.YtfdjbmamidmgfaaGreatPA
set_option linter.unusedVariables false
namespace Go.Py
theorem div_step {a b q:List Int} {n:Nat} (hb:tr b≠[]) (h:Eqp a (mulL q b)) (hz:∀ i,n+(tr b).length≤i→cf a i=0):cf a (n+(tr b).length-1)=cf q n*cf (tr b) ((tr b).length-1)∧∀ i,n<i→cf q i=0:=by
 have lb:=List.length_pos_iff.2 hb
 have e:Eqp a (mulL q (tr b)):=h.trans (eqp_mulL_right (cf_tr b).symm q)
 have hq:∀ i,n<i→cf q i=0:=by
  by_cases hq0:tr q=[]
  · intro i _; exact (tr_nil_iff q).1 hq0 i
  · have lq:=List.length_pos_iff.2 hq0
    have e2:Eqp a (mulL (tr q) (tr b)):=e.trans (eqp_mulL_left _ (cf_tr q).symm)
    have t:=(cf_mulL_top (tr q) (tr b) ((tr q).length-1) ((tr b).length-1) (fun i hi=>cf_ge (by omega)) (fun i hi=>cf_ge (by omega))).1
    rcases Nat.lt_or_ge n ((tr q).length-1) with hlt | hge
    · exfalso
      have z:=hz ((tr q).length-1+((tr b).length-1)) (by omega)
      rw [e2,t] at z
      rcases Int.mul_eq_zero.1 z with z | z
      · exact tr_last q hq0 z
      · exact tr_last b hb z
    · intro i hi
      rw [← cf_tr q i]
      exact cf_ge (by omega)
 refine ⟨?_,hq⟩
 have t:=(cf_mulL_top q (tr b) n ((tr b).length-1) hq (fun i hi=>cf_ge (by omega))).1
 rw [show n+(tr b).length-1=n+((tr b).length-1) by omega,e,t]
end Go.Py
