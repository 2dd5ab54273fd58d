/- Rows of integers: what is left of them is at right angles; a vector of the lattice is not shorter than the last row's. -/
import Derived.Test.YtfdjbmamidmgfaaGreatPX
set_option linter.unusedVariables false
namespace Go.Dt
section
variable {n w:Nat} {b:Nat->Nat->Int}
theorem pv_orth (H:Ind b n w) {s:Nat}:∀ {t:Nat},s<t->t<=n->∀ a,dq (pv b w s s) (pv b w t a) w=0
 | 0,h,_,_=>by omega
 | t+1,h,ht,a=>by
  rw [pv_succ',dq_lin2];by_cases e:s=t
  . subst e;have hs:=H.sq (t:=s) (by omega);rw [dq_comm (pv b w s s) (pv b w s a),show dq (pv b w s s) (pv b w s s) w=ss b w s from rfl];have:ss b w s≠0:=by grind
    grind
  . rw [pv_orth H (t:=t) (by omega) (by omega) a,pv_orth H (t:=t) (by omega) (by omega) t]; grind
theorem pv_adj (H:Ind b n w) {t:Nat} (ht:t<=n) (a c:Nat):∀ {s:Nat},s<=t->dq (pv b w s c) (pv b w t a) w=dq (pv b w 0 c) (pv b w t a) w
 | 0,_=>rfl
 | s+1,h=>by
  rw [pv_succ',dq_lin,pv_orth H (s:=s) (t:=t) (by omega) ht a,pv_adj H ht a c (s:=s) (by omega)]; grind
theorem pv_row (H:Ind b n w) {t u:Nat} (ht:t<n) (hu:u<=t):dq (rv (b u)) (pv b w t t) w=if u=t then ss b w t else 0:=by
 have h1:=pv_adj H (t:=t) (by omega) t u (Nat.le_refl t);show dq (pv b w 0 u) (pv b w t t) w=_;rw [<- h1];by_cases e:u=t
 . subst e; rw [if_pos rfl]; rfl
 . rw [if_neg e]; exact dq_none _ λc _=>pv_gone H (by omega) (by omega) c
def smQ (y:Nat->Rat) (b:Nat->Nat->Int) (c:Nat):Nat->Rat
 | 0=>0
 | n+1=>smQ y b c n+y n*(b n c:Rat)
theorem smQ_dq (y:Nat->Rat) (b:Nat->Nat->Int) (v:Nat->Rat) (w:Nat):∀ n,dq (λc=>smQ y b c (n+1)) v w=dq (λc=>smQ y b c n) v w+y n*dq (rv (b n)) v w:=λn=>by
 have e:∀ c,smQ y b c (n+1)=smQ y b c n-(-(y n))*rv (b n) c:=λc=>by rw [smQ]; show _=_ - -(y n)*((b n c:Int):Rat); grind
 rw [dq_eq e λ_=>rfl,dq_lin]; grind
theorem smQ_last (H:Ind b n w) (y:Nat->Rat) {t:Nat} (ht:t<n):dq (λc=>smQ y b c (t+1)) (pv b w t t) w=y t*ss b w t:=by
 have key:∀ m,m<=t->dq (λc=>smQ y b c m) (pv b w t t) w=0:=by
  intro m;induction m with
  | zero=>intro _; exact dq_none _ λc _=>rfl
  | succ m ih=>
   intro hm;rw [smQ_dq,ih (by omega),pv_row H ht (by omega),if_neg (by omega)]; grind
 rw [smQ_dq,key t (Nat.le_refl _),pv_row H ht (Nat.le_refl _),if_pos rfl]; grind
theorem smQ_cut {y:Nat->Rat} {b:Nat->Nat->Int} {c t:Nat}:∀ {m:Nat},t<=m->(∀ u,t<=u->u<m->y u=0)->smQ y b c m=smQ y b c t
 | 0,h,_=>by
  have e:t=0:=by omega
  rw [e]
 | m+1,h,hz=>by
  by_cases e:t=m+1
  . rw [e]
  . rw [smQ,smQ_cut (m:=m) (by omega) λu h1 h2=>hz u h1 (by omega),hz m (by omega) (by omega)]; grind
theorem last_ne (y:Nat->Rat):∀ n,(∀ t,t<n->y t=0)\/∃ t,t<n/\y t≠0/\∀ u,t<u->u<n->y u=0
 | 0=>.inl λt ht=>by omega
 | n+1=>by
  by_cases h:y n=0
  . rcases last_ne y n with h1 | ⟨t,h1,h2,h3⟩
    . refine .inl λt ht=>?_;by_cases e:t=n
      . rw [e]; exact h
      . exact h1 t (by omega)
    . refine .inr ⟨t,by omega,h2,λu hu hu'=>?_⟩;by_cases e:u=n
      . rw [e]; exact h
      . exact h3 u hu (by omega)
  . exact .inr ⟨n,by omega,h,λu hu hu'=>by omega⟩
theorem ind_ker (H:Ind b n w) (y:Nat->Rat) (h:∀ c,c<w->smQ y b c n=0):∀ t,t<n->y t=0:=by
 rcases last_ne y n with h1 | ⟨t,ht,h2,h3⟩
 . exact h1
 . exfalso;have e:=smQ_last H y ht;have z:dq (λc=>smQ y b c (t+1)) (pv b w t t) w=0:=dq_none _ λc hc=>by
    have h1:=smQ_cut (y:=y) (b:=b) (c:=c) (t:=t+1) (m:=n) (by omega) λu h1 h2=>h3 u (by omega) h2;rw [<- h1]; exact h c hc
   rw [z] at e;have hs:=H.sq ht;rcases Rat.mul_eq_zero.1 e.symm with h4 | h4
   . exact h2 h4
   . rw [h4] at hs; exact absurd hs (by decide)
end
end Go.Dt
