/- Decimal texts, in plain numbers. -/
import Derived.Test.YtfdjbmamidmgfaaGreatNA
import Derived.Test.YtfdjbmamidmgfaaGreatMB
set_option linter.unusedVariables false
namespace Go.Nm
open Go.Vw
def txB (d:Nat):UInt8:=UInt8.ofNat (48+d)
def decL (n:Nat):List UInt8:=(dig 10 n).reverse.map txB
def padL (k n:Nat):List UInt8:=(pad 10 k n).reverse.map txB
def decT (n:Nat):List UInt8:=if n=0 then [48] else decL n
theorem txB_nat {d:Nat} (h:d<10):(txB d).toNat=48+d:=by
 simp only [txB,UInt8.toNat_ofNat'];omega
theorem dig_pad:∀ (k n:Nat),n / 10^k≠0->dig 10 n=pad 10 k n++dig 10 (n / 10^k)
 | 0,n,_=>by simp [pad]
 | k+1,n,h=>by
  have hn:0<n:=by
   rcases Nat.eq_zero_or_pos n with e | e
   . subst e; simp at h
   . exact e
  have e:n / 10 / 10^k=n / 10^(k+1):=by rw [Nat.div_div_eq_div_mul,Nat.pow_succ,Nat.mul_comm]
  rw [dig_pos (by omega) hn,dig_pad k (n / 10) (by rw [e]; exact h),e];rfl
theorem dec_split {k n:Nat} (h:n / 10^k≠0):decL n=decL (n / 10^k)++padL k n:=by
 rw [decL,dig_pad k n h,List.reverse_append,List.map_append]; rfl
theorem pad_mod (k:Nat):∀ n,pad 10 k (n%10^k)=pad 10 k n:=by
 intro n;have hl:=pad_length 10 k n;have hd:=pad_lt (B:=10) (by omega) k n;have:=pad_unique (B:=10) (by omega) hd hl (c:=0) (N:=n%10^k) (by rw [val_pad]; simp);exact this.1.symm
theorem padL_mod (k n:Nat):padL k (n%10^k)=padL k n:=by rw [padL,pad_mod]; rfl
theorem padL_succ (k n:Nat):padL (k+1) n=txB (n / 10^k%10)::padL k n:=by
 rw [padL,pad_snoc,List.reverse_append]; rfl
theorem padL_all {k n:Nat} (h0:n / 10^k=0) (h1:k=0\/n / 10^(k-1)≠0):padL k n=decL n:=by
 rcases h1 with rfl | h1
 . simp at h0; subst h0; rfl
 . cases k with
   | zero=>simp at h0 h1; exact absurd h0 h1
   | succ k=>
    have e:n / 10^k / 10=n / 10^(k+1):=by rw [Nat.div_div_eq_div_mul,Nat.pow_succ]
    rw [h0] at e;rw [Nat.add_sub_cancel] at h1;rw [dec_split h1,padL_succ,decL,dig_pos (by omega) (by omega),e,dig_zero];rfl
theorem decL_zero:decL 0=[]:=rfl
theorem decL_length {n L:Nat} (h:n<18446744073709551616^L):(decL n).length<=20*L:=by
 rw [decL,List.length_map,List.length_reverse];refine dig_length_le (by omega) (Nat.lt_of_lt_of_le h ?_);rw [Nat.pow_mul];exact Nat.pow_le_pow_left (by omega) L
theorem decT_length {n L:Nat} (h:n<18446744073709551616^L):(decT n).length<=20*L+1:=by
 unfold decT;split
 . simp
 . have:=decL_length h; omega
end Go.Nm
