/- Rows of integers: how long what is left of them is; how great the numbers of the stripped rows are. -/
import Derived.Test.YtfdjbmamidmgfaaGreatPW
set_option linter.unusedVariables false
namespace Go.Dt
def nb (b:Nat->Nat->Int) (w a:Nat):Int:=dz (b a) (b a) w
theorem nb_cast (b:Nat->Nat->Int) (w a:Nat):((nb b w a:Int):Rat)=dq (pv b w 0 a) (pv b w 0 a) w:=dz_cast _ _ _
theorem dz_nonneg (u:Nat->Int):∀ w,0<=dz u u w
 | 0=>Int.le_refl _
 | k+1=>by
  have h1:=dz_nonneg u k;have h2:0<=u k*u k:=by
   rcases Int.le_total 0 (u k) with h | h
   . exact Int.mul_nonneg h h
   . exact Int.mul_nonneg_of_nonpos_of_nonpos h h
  rw [dz]; omega
theorem dz_le (u:Nat->Int) {c:Nat}:∀ {w:Nat},c<w->u c*u c<=dz u u w
 | 0,h=>by omega
 | k+1,h=>by
  have h2:0<=u k*u k:=by
   rcases Int.le_total 0 (u k) with h | h
   . exact Int.mul_nonneg h h
   . exact Int.mul_nonneg_of_nonpos_of_nonpos h h
  have h1:=dz_nonneg u k;rw [dz];by_cases e:c=k
  . subst e; omega
  . have:=dz_le u (c:=c) (w:=k) (by omega); omega
theorem dz_sub (u v:Nat->Int) (q:Int):∀ w,dz (λc=>u c-q*v c) (λc=>u c-q*v c) w<=2*dz u u w+2*(q*q)*dz v v w
 | 0=>by simp [dz]
 | k+1=>by
  have ih:=dz_sub u v q k;rw [dz,dz,dz];have h:0<=(u k+q*v k)*(u k+q*v k):=by
   rcases Int.le_total 0 (u k+q*v k) with h | h
   . exact Int.mul_nonneg h h
   . exact Int.mul_nonneg_of_nonpos_of_nonpos h h
  have e:(u k-q*v k)*(u k-q*v k)=2*(u k*u k)+2*(q*q)*(v k*v k)-(u k+q*v k)*(u k+q*v k):=by grind
  have e2:2*(q*q)*(dz v v k+v k*v k)=2*(q*q)*dz v v k+2*(q*q)*(v k*v k):=by grind
  rw [e,e2]; omega
theorem inv_pos' {x:Rat} (h:0<x):0<x⁻¹:=by
 rcases Rat.le_total (a:=0) (b:=x⁻¹) with h1 | h1
 . rcases Rat.le_iff_lt_or_eq.1 h1 with h2 | h2
   . exact h2
   . have:x*x⁻¹=1:=Rat.mul_inv_cancel _ (by grind);rw [<- h2] at this; grind
 . have h5:0<=-x⁻¹:=by grind
   have h6:=Rat.mul_nonneg (Rat.le_of_lt h) h5;have h7:x*x⁻¹=1:=Rat.mul_inv_cancel _ (by grind);grind
theorem div_nonneg' {x y:Rat} (hx:0<=x) (hy:0<y):0<=x / y:=by
 rw [Rat.div_def]; exact Rat.mul_nonneg hx (Rat.le_of_lt (inv_pos' hy))
section
variable {n w:Nat} {b:Nat->Nat->Int}
theorem pv_sq (H:Ind b n w) {t:Nat} (ht:t<n) (a:Nat):dq (pv b w (t+1) a) (pv b w (t+1) a) w=dq (pv b w t a) (pv b w t a) w-dq (pv b w t a) (pv b w t t) w*dq (pv b w t a) (pv b w t t) w / ss b w t:=by
 have hs:=H.sq ht;rw [pv_succ',dq_lin,dq_lin2,dq_lin2,dq_comm (pv b w t t) (pv b w t a)];rw [show dq (pv b w t t) (pv b w t t) w=ss b w t from rfl];generalize dq (pv b w t a) (pv b w t t) w=X;generalize ss b w t=s at hs;have h0:s≠0:=by grind
 grind
theorem pv_le (H:Ind b n w) (a:Nat):∀ {t:Nat},t<=n->dq (pv b w t a) (pv b w t a) w<=((nb b w a:Int):Rat)
 | 0,_=>by rw [nb_cast]; exact Rat.le_refl
 | t+1,ht=>by
  have h1:=pv_le H a (t:=t) (by omega);rw [pv_sq H (by omega)];have h2:=div_nonneg' (sq_nonneg (dq (pv b w t a) (pv b w t t) w)) (H.sq (t:=t) (by omega));grind
theorem m_sq (H:Ind b n w) {a t:Nat} (ht:t<=a) (ha:a<n):bM b w a t*bM b w a t<=bD b w t*bD b w (t+1)*nb b w a:=by
 have h1:=H.m ht ha;have h2:=H.d (t:=t) (by omega);have h3:=pv_sq H (t:=t) (by omega) a;have h4:=dq_nonneg (pv b w (t+1) a) w;have h5:=pv_le H a (t:=t) (by omega);have hs:=H.sq (t:=t) (by omega);have hd:=H.posQ (t:=t) (by omega);have hd1:=H.posQ (t:=t+1) (by omega);generalize dq (pv b w t a) (pv b w t t) w=X at h1 h3;generalize dq (pv b w (t+1) a) (pv b w (t+1) a) w=Z at h3 h4;generalize dq (pv b w t a) (pv b w t a) w=Y at h3 h5;have key:((bM b w a t*bM b w a t:Int):Rat)<=((bD b w t*bD b w (t+1)*nb b w a:Int):Rat):=by
  push_cast;rw [h1,h2];generalize ((nb b w a:Int):Rat)=N at h5;generalize ss b w t=s at h3 hs;generalize ((bD b w t:Int):Rat)=d at hd;have h0:s≠0:=by grind
  have e1:X*X<=Y*s:=by
   have h6:0<=Z*s:=Rat.mul_nonneg h4 (Rat.le_of_lt hs);have e:Z*s=Y*s-X*X:=by rw [h3]; grind
   rw [e] at h6; grind
  have e2:Y*s<=N*s:=Rat.mul_le_mul_of_nonneg_right h5 (Rat.le_of_lt hs);have e3:0<=d*d:=sq_nonneg d;have e4:=Rat.mul_le_mul_of_nonneg_left (Rat.le_trans e1 e2) e3;have e5:d*X*(d*X)=d*d*(X*X):=by grind
  have e6:d*(d*s)*N=d*d*(N*s):=by grind
  rw [e5,e6]; exact e4
 exact_mod_cast key
theorem near_sq (H:Ind b n w) {a:Nat} (ha:a<n) {Δ:Int} (hΔ:∀ t,t<=n->bD b w t<=Δ) (hm:∀ t,t<a->(bM b w a t+bM b w a t).natAbs<=bD b w (t+1)):nb b w a<=(a+1)*Δ:=by
 have hss:∀ t,t<n->ss b w t<=(Δ:Rat):=by
  intro t ht;have h2:=H.d (t:=t) (by omega);have h3:((bD b w (t+1):Int):Rat)<=(Δ:Rat):=by exact_mod_cast hΔ (t+1) (by omega)
  have h4:(1:Rat)<=((bD b w t:Int):Rat):=by
   have:=H.pos (t:=t) (by omega);have:(1:Int)<=bD b w t:=by omega
   exact_mod_cast this
  have hs:=H.sq ht;rw [h2] at h3;have:=Rat.mul_le_mul_of_nonneg_right h4 (Rat.le_of_lt hs);grind
 have key:∀ t,t<=a->((nb b w a:Int):Rat)<=dq (pv b w t a) (pv b w t a) w+(t:Rat)*(Δ:Rat):=by
  intro t;induction t with
  | zero=>intro _; rw [nb_cast]; grind
  | succ t ih=>
   intro ht;have ih:=ih (by omega);have h3:=pv_sq H (t:=t) (by omega) a;have h1:=H.m (a:=a) (t:=t) (by omega) ha;have hs:=H.sq (t:=t) (by omega);have hd:=H.posQ (t:=t) (by omega);have h2:=H.d (t:=t) (by omega);have h5:=hss t (by omega);have hmt:=hm t (by omega);have q1:((bM b w a t:Int):Rat)<=((bD b w (t+1):Int):Rat):=by
    have:bM b w a t<=bD b w (t+1):=by omega
    exact_mod_cast this
   have q2: -((bD b w (t+1):Int):Rat)<=((bM b w a t:Int):Rat):=by
    have: -bD b w (t+1)<=bM b w a t:=by omega
    exact_mod_cast this
   rw [h1,h2] at q1 q2;generalize dq (pv b w t a) (pv b w t t) w=X at h3 q1 q2;generalize dq (pv b w (t+1) a) (pv b w (t+1) a) w=Z at h3 ⊢;generalize dq (pv b w t a) (pv b w t a) w=Y at h3 ih;generalize ss b w t=s at h3 hs h5 q1 q2;generalize ((bD b w t:Int):Rat)=d at hd q1 q2;have h0:s≠0:=by grind
   have u1:X<=s:=by
    rcases Rat.le_total (a:=X) (b:=s) with h | h
    . exact h
    . have:=Rat.mul_le_mul_of_nonneg_left h (Rat.le_of_lt hd);have e:d*X=d*s:=Rat.le_antisymm q1 this;have:X=s:=by
       have hd0:d≠0:=by grind
       have:d*(X-s)=0:=by grind
       rcases Rat.mul_eq_zero.1 this with h | h
       . exact absurd h hd0
       . grind
      grind
   have u2: -s<=X:=by
    rcases Rat.le_total (a:= -s) (b:=X) with h | h
    . exact h
    . have:=Rat.mul_le_mul_of_nonneg_left h (Rat.le_of_lt hd);have e:d*X= -(d*s):=by grind
      have:X= -s:=by
       have hd0:d≠0:=by grind
       have:d*(X+s)=0:=by grind
       rcases Rat.mul_eq_zero.1 this with h | h
       . exact absurd h hd0
       . grind
      grind
   have u3:X*X<=s*s:=by
    have a1:0<=s-X:=by grind
    have a2:0<=s+X:=by grind
    have:=Rat.mul_nonneg a1 a2;grind
   have u4:X*X / s<=s:=by
    have a1:0<=s*s-X*X:=by grind
    have a2:=div_nonneg' a1 hs;have a3:(s*s-X*X) / s=s-X*X / s:=by grind
    grind
   push_cast;grind
 have h1:=key a (Nat.le_refl _);have h2:=hss a ha;have h3:((nb b w a:Int):Rat)<=(((a+1)*Δ:Int):Rat):=by
  push_cast;rw [show dq (pv b w a a) (pv b w a a) w=ss b w a from rfl] at h1;grind
 exact_mod_cast h3
end
end Go.Dt
