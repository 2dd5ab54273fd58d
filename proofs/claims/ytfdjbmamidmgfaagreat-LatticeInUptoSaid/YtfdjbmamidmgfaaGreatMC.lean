/- The layer of limbs: rows that are handed in, long division, texts written. -/
import Derived.Test.YtfdjbmamidmgfaaGreatMB
import Derived.Test.YtfdjbmamidmgfaaGreatMA
import Derived.Test.YtfdjbmamidmgfaaGreatNB
import Derived.Test.YtfdjbmamidmgfaaGreatNC
import Derived.Shelf.Strings.OnBuilder
import Derived.KernelRfl
set_option linter.unusedVariables false
set_option linter.unusedSimpArgs false
namespace Go.Vw
open Go.Proofs
theorem trim_take_le {a:List Nat} {k:Nat} (hk:k<=a.length) (ht:Nm.trim (a.take k)=Nm.trim a) (hp:k=0\/(a.take k).getD (k-1) 0≠0):k=(Nm.trim a).length:=by
 rcases hp with rfl | hp
 . rw [<- ht]; simp [Nm.trim]
 . have hl:(a.take k).length=k:=by simp; omega
   have h0:0<k:=by
    rcases Nat.eq_zero_or_pos k with h | h
    . subst h; simp at hp
    . exact h
   rw [<- ht,trim_last (by omega) (by rw [hl]; exact hp),hl]
theorem plain_given (a:List Nat) (hl:a.length<=2^62):SpecG Tryz.prog f_nat_plain (.arr 118 none (uL a)) [] (λo g=>o= .arr 118 none (uL a)/\g=[.sub 0 (Nm.trim a).length]):=by
 refine specG_at Tryz.func136 ok_nat_plain (by simp) ?_;unfold sc_nat_plain;refine Wr ?_; simp;refine WS_seq (WS_block (WS_loop (λS=>∃ k:Nat,S.σ 0= .own 999 0 0 k/\S.h 999=⟨0,some (.arr 118 none (uL a))⟩/\k<=a.length/\Nm.trim (a.take k)=Nm.trim a) (λS=>match S.σ 0 with | .own _ _ _ k=>k | _=>0) ⟨a.length,by simp,by simp,Nat.le_refl _,by simp⟩ ?_));rintro S ⟨k,h0,hh,hk,ht⟩;refine Ws ?_;have hlk:(a.take k).length=k:=by simp; omega
 by_cases hp:0<k
 . have hw:=i64_pred k (by omega) hp;have hlt:k-1<a.length:=by omega
   have hlt2:k-1<k:=by omega
   have hget:(a.take k).getD (k-1) 0=a[k-1]:=by simp [List.getD,List.getElem?_take,hlt,hlt2]
   simp [h0,hh,hp,hw,hlt,hlt2];refine WS_cond (by simp; rfl) (λh=>?_) (λh=>?_)
   . have hz:a[k-1]=0:=by simpa using h
     refine WS_skip ?_; simp;refine WS_block (WS_reg [] ?_); simp [h0,hh,hw,hp];have:=trim_take_zero (l:=a.take k) (by omega) (by rw [hlk,hget,hz]);rw [hlk,List.take_take,Nat.min_eq_left (by omega)] at this
     first
      | exact ⟨⟨by omega,by rw [this,ht]⟩,hlt2⟩
      | exact ⟨by omega,by rw [this,ht],hlt2⟩
      | exact ⟨⟨k-1,rfl,by omega,by rw [this,ht]⟩,hlt2⟩
      | exact ⟨by omega,by rw [this,ht]⟩
   . have hz:a[k-1]≠0:=by simpa using h
     refine WS_exit ?_; simp;refine Wr ?_; simp [h0];refine WS_ret ?_; simp [hh];exact trim_take_le hk ht (.inr (by rw [hget]; exact hz))
 . have hk0:k=0:=by omega
   subst hk0;simp [h0,hh];refine WS_cond (by simp; rfl) (λh=>by simp at h) (λh=>?_);refine WS_exit ?_; simp;refine Wr ?_; simp [h0];refine WS_ret ?_; simp [hh];rw [<- ht]; simp [Nm.trim]
def swapN {α:Type} (l:List α) (i j:Nat) (d:α):List α:=(l.set i (l.getD j d)).set j (l.getD i d)
def revUp {α:Type} (l:List α) (d:α):Nat->List α
 | 0=>l
 | k+1=>swapN (revUp l d k) k (l.length-1-k) d
theorem revUp_length {α:Type} (l:List α) (d:α):∀ k,(revUp l d k).length=l.length
 | 0=>rfl
 | k+1=>by simp [revUp,swapN,revUp_length l d k]
theorem revUp_get {α:Type} (l:List α) (d:α):∀ k,2*k<=l.length->∀ i,i<l.length->(revUp l d k).getD i d=if i<k\/l.length-1-i<k then l.getD (l.length-1-i) d else l.getD i d
 | 0,_,i,hi=>by simp [revUp]
 | k+1,hk,i,hi=>by
  have ih:=revUp_get l d k (by omega);have hl:=revUp_length l d k;have h1:=ih k (by omega);have h2:=ih (l.length-1-k) (by omega);rw [if_neg (by omega)] at h1 h2;simp only [revUp,swapN,h1,h2];have h3:=ih i hi;simp only [List.getD,List.getElem?_set,List.length_set,hl] at h3 ⊢;by_cases e1:l.length-1-k=i
  . subst e1;have e2:l.length-1-(l.length-1-k)=k:=by omega
    simp [hi,e2]
  . by_cases e2:k=i
    . subst e2;simp [e1,hi]
    . rw [if_neg e1,if_neg e2,h3];have:(i<k+1\/l.length-1-i<k+1)↔(i<k\/l.length-1-i<k):=by omega
      simp only [this]
theorem revUp_all {α:Type} (l:List α) (d:α) {k:Nat} (h1:2*k<=l.length) (h2:l.length<=2*k+1):revUp l d k=l.reverse:=by
 refine List.ext_getElem (by simp [revUp_length]) λi hi hi'=>?_;have hil:i<l.length:=by simpa [revUp_length] using hi
 have:=revUp_get l d k h1 i hil;simp only [List.getD,List.getElem?_eq_getElem hi,Option.getD_some] at this;rw [this,List.getElem_reverse];split
 . simp [show l.length-1-i<l.length by omega]
 . have e:l.length-1-i=i:=by omega
   simp [e,hil]
theorem revb_given (xs:List V) (hf:∀ v∈xs,v.isAgg=false) (hl:xs.length<=2^40):SpecG Tryz.prog f_slices_Reverse_Lbyte_byte (.arr 5 none xs) [] (λo g=>o= .arr 5 none xs.reverse/\g=[]):=by
 refine specG_at Tryz.func202 ok_slices_Reverse_Lbyte_byte (by simp) ?_;unfold sc_slices_Reverse_Lbyte_byte;obtain ⟨n,hn⟩:∃ n,n=xs.length:=⟨_,rfl⟩;have w0:IntKind.i64.wrap ((n:Int)-1)=(n:Int)-1:=i64_int _ (by omega) (by omega);refine Wr ?_; simp [<- hn,w0];refine WS_block (WS_loop (λS=>∃ k:Nat,S.σ 0= .own 999 0 0 n/\S.σ 2= .p (.i .i64 (k:Int))/\S.σ 3= .p (.i .i64 ((n:Int)-1-k))/\S.h 999=⟨0,some (.arr 5 none (revUp xs default k))⟩/\2*k<=n) (λS=>match S.σ 2 with | .p (.i _ k)=>n-k.toNat | _=>0) ⟨0,by simp,by simp,by simp,by simp [revUp],by omega⟩ ?_);rintro S ⟨k,h0,h2,h3,hh,hk⟩;refine Ws ?_; simp [h2,h3];by_cases hlt:(k:Int)<n-1-k
 . have hj:((n:Int)-1-k)=((n-1-k:Nat):Int):=by omega
   rw [hj] at h3;obtain ⟨j,hjd⟩:∃ j,j=n-1-k:=⟨_,rfl⟩;rw [<- hjd] at h3;have hrl:=revUp_length xs default k;have hkn:k<n:=by omega
   have hjn:j<n:=by omega
   have hkr:k<(revUp xs default k).length:=by omega
   have hjr:j<(revUp xs default k).length:=by omega
   have hnext:revUp xs default (k+1)=swapN (revUp xs default k) k j default:=by simp [revUp,hjd,hn]
   have hff:∀ v∈revUp xs default k,v.isAgg=false:=by
    intro v hv;obtain ⟨i,hi,rfl⟩:=List.getElem_of_mem hv;have:=revUp_get xs default k (by omega) i (by omega);simp only [List.getD,List.getElem?_eq_getElem hi,Option.getD_some] at this;rw [this];have h1:i<xs.length:=by omega
    have h2:xs.length-1-i<xs.length:=by omega
    split
    . simp [h2,hf,-V.isAgg]
    . simp [h1,hf,-V.isAgg]
   obtain ⟨ys,hys⟩:∃ z,z=revUp xs default k:=⟨_,rfl⟩;rw [<- hys] at hh hrl hkr hjr hnext hff;have f1:ys[k].isAgg=false:=hff _ (List.getElem_mem hkr);have f2:ys[j].isAgg=false:=hff _ (List.getElem_mem hjr);have w1:=i64_succ k (by omega);have w2:IntKind.i64.wrap ((j:Int)-1)=(j:Int)-1:=i64_int _ (by omega) (by omega);refine WS_cT (by simp; omega) ?_;refine WS_skip ?_; simp;refine WS_seq (WS_block (WS_regD [] ?_)); simp [h0,h2,h3,hh,hkn,hjn,hkr,hjr,V.fits,f1,f2,-V.isAgg];refine ⟨rfl,?_⟩;refine WS_reg [] ?_; simp [h0,h2,h3,hh,w1,w2,hnext,swapN,List.getD,hkr,hjr];refine ⟨⟨k+1,rfl,by omega,?_,by omega⟩,by omega⟩;rw [hnext];simp [swapN,List.getD,hkr,hjr]
 . refine WS_cF (by simp; omega) ?_;refine WS_exit ?_; simp [hh];exact revUp_all xs default (by omega) (by omega)
theorem revs_given (xs:List V) (hf:∀ v∈xs,v.isAgg=false) (hl:xs.length<=2^40):SpecG Tryz.prog f_slices_Reverse_Lstring_string (.arr 9 none xs) [] (λo g=>o= .arr 9 none xs.reverse/\g=[]):=by
 refine specG_at Tryz.func167 ok_slices_Reverse_Lstring_string (by simp) ?_;unfold sc_slices_Reverse_Lstring_string;obtain ⟨n,hn⟩:∃ n,n=xs.length:=⟨_,rfl⟩;have w0:IntKind.i64.wrap ((n:Int)-1)=(n:Int)-1:=i64_int _ (by omega) (by omega);refine Wr ?_; simp [<- hn,w0];refine WS_block (WS_loop (λS=>∃ k:Nat,S.σ 0= .own 999 0 0 n/\S.σ 2= .p (.i .i64 (k:Int))/\S.σ 3= .p (.i .i64 ((n:Int)-1-k))/\S.h 999=⟨0,some (.arr 9 none (revUp xs default k))⟩/\2*k<=n) (λS=>match S.σ 2 with | .p (.i _ k)=>n-k.toNat | _=>0) ⟨0,by simp,by simp,by simp,by simp [revUp],by omega⟩ ?_);rintro S ⟨k,h0,h2,h3,hh,hk⟩;refine Ws ?_; simp [h2,h3];by_cases hlt:(k:Int)<n-1-k
 . have hj:((n:Int)-1-k)=((n-1-k:Nat):Int):=by omega
   rw [hj] at h3;obtain ⟨j,hjd⟩:∃ j,j=n-1-k:=⟨_,rfl⟩;rw [<- hjd] at h3;have hrl:=revUp_length xs default k;have hkn:k<n:=by omega
   have hjn:j<n:=by omega
   have hkr:k<(revUp xs default k).length:=by omega
   have hjr:j<(revUp xs default k).length:=by omega
   have hnext:revUp xs default (k+1)=swapN (revUp xs default k) k j default:=by simp [revUp,hjd,hn]
   have hff:∀ v∈revUp xs default k,v.isAgg=false:=by
    intro v hv;obtain ⟨i,hi,rfl⟩:=List.getElem_of_mem hv;have:=revUp_get xs default k (by omega) i (by omega);simp only [List.getD,List.getElem?_eq_getElem hi,Option.getD_some] at this;rw [this];have h1:i<xs.length:=by omega
    have h2:xs.length-1-i<xs.length:=by omega
    split
    . simp [h2,hf,-V.isAgg]
    . simp [h1,hf,-V.isAgg]
   obtain ⟨ys,hys⟩:∃ z,z=revUp xs default k:=⟨_,rfl⟩;rw [<- hys] at hh hrl hkr hjr hnext hff;have f1:ys[k].isAgg=false:=hff _ (List.getElem_mem hkr);have f2:ys[j].isAgg=false:=hff _ (List.getElem_mem hjr);have w1:=i64_succ k (by omega);have w2:IntKind.i64.wrap ((j:Int)-1)=(j:Int)-1:=i64_int _ (by omega) (by omega);refine WS_cT (by simp; omega) ?_;refine WS_skip ?_; simp;refine WS_seq (WS_block (WS_regD [] ?_)); simp [h0,h2,h3,hh,hkn,hjn,hkr,hjr,V.fits,f1,f2,-V.isAgg];refine ⟨rfl,?_⟩;refine WS_reg [] ?_; simp [h0,h2,h3,hh,w1,w2,hnext,swapN,List.getD,hkr,hjr];refine ⟨⟨k+1,rfl,by omega,?_,by omega⟩,by omega⟩;rw [hnext];simp [swapN,List.getD,hkr,hjr]
 . refine WS_cF (by simp; omega) ?_;refine WS_exit ?_; simp [hh];exact revUp_all xs default (by omega) (by omega)
theorem moved_own (a:List Nat) (n:Nat) (hl:a.length<=2^40) (hn:n<=2^40):Spec Tryz.prog f_nat_moved [U a,.i .i64 (n:Int)] (· =[.own 118 none (uL (List.replicate n 0++a))]):=by
 refine spec_at Tryz.func137 ok_nat_moved [true] rfl (by simp) ?_;unfold sc_nat_moved U;refine Wr ?_; simp;refine Wr ?_; simp;refine ⟨by omega,by omega,?_⟩;refine WS_ret ?_; simp [take_all' (show (List.replicate n 0++a).length=n+a.length by simp)]
theorem take_trim (l:List Nat):l.take (Nm.trim l).length=Nm.trim l:=(Nm.trim_take l).symm
theorem nshl_own (a:List Nat) (ha:Nm.Dl 18446744073709551616 a) (hl:a.length<=2^38) (m:Nat) (h2:¬ (262144:Int)<(m:Int)):
 Spec Tryz.prog f_nat_Shl [U a,.i .i64 (m:Int)] (· =[.own 118 none (uL (Nm.dig 18446744073709551616 (Nm.val 18446744073709551616 a*2^m))),.pure (.i .i64 0)]):=by
 refine spec_at Tryz.func84 ok_nat_Shl [true] rfl (by simp) ?_;unfold sc_nat_Shl;refine Wr ?_; simp [U];refine WS_frz 2 2 none ?_;simp [frzQ];refine WS_frz 3 3 none ?_;simp [frzQ];refine Ws ?_;have h1:¬ (m:Int)<0:=by omega
 simp [h1,h2];refine WS_cF (by simp) ?_;refine WS_skip ?_; simp;obtain ⟨q,hq⟩:∃ q,q=m / 64:=⟨_,rfl⟩;obtain ⟨s,hs⟩:∃ s,s=m%64:=⟨_,rfl⟩;have hd:(m:Int).tdiv 64=(q:Int):=by have:=tdiv_nat m 64; rw [<- hq] at this; exact this
 have hwq:=i64_nat q (by omega);have hB:(2:Nat)^(s+(64-s))=18446744073709551616:=by rw [show s+(64-s)=64 by omega]
 have hrun:=Nm.crun_shl (s:=s) (t:=64-s) (a:=a) (by rw [hB]; exact ha);rw [hB] at hrun;obtain ⟨hr,hc⟩:=hrun;have hs64:2^s<=2^63:=Nat.pow_le_pow_right (by omega) (by omega);have hdig:=shl_digits (B:=18446744073709551616) (q:=q) (k:=a.length) (N:=Nm.val 18446744073709551616 a*2^s) (by omega) (by omega);have hval:18446744073709551616^q*(Nm.val 18446744073709551616 a*2^s)=Nm.val 18446744073709551616 a*2^m:=by
  have e:(18446744073709551616:Nat)^q*2^s=2^m:=by
   rw [show (18446744073709551616:Nat)=2^64 from rfl,<-Nat.pow_mul,<-Nat.pow_add]; congr 1; omega
  rw [Nat.mul_left_comm,e]
 rw [hval] at hdig;have hlen:=Nm.pad_length 18446744073709551616 a.length (Nm.val 18446744073709551616 a*2^s);obtain ⟨L,hL⟩:∃ L,L=Nm.pad 18446744073709551616 a.length (Nm.val 18446744073709551616 a*2^s):=⟨_,rfl⟩;obtain ⟨c,hcd⟩:∃ c,c=Nm.val 18446744073709551616 a*2^s / 18446744073709551616^a.length:=⟨_,rfl⟩;rw [<- hL,<-hcd] at hr hdig;rw [<- hL] at hlen;refine Wr ?_; simp;refine callK (carried_spec a.length (by omega) f_nat_Shl_1 [.ref none (U a),.ref none (.i .i64 (m:Int))] (Nm.shlF 18446744073709551616 s a) (λc=>c<2^s) (Nat.pow_pos (by omega)) (λk c hk hc=>⟨shl1_spec a ha k c m s hs.symm hk hc (by omega),Nat.div_lt_of_lt_mul (Nat.mul_lt_mul_of_pos_right (ha.get (by omega) k) (Nat.pow_pos (by omega)))⟩)) ?_; simp [hr];obtain ⟨M,hM⟩:∃ M,M=List.replicate q 0++(L++[c]):=⟨_,rfl⟩;have hMl:M.length=q+(a.length+1):=by simp [hM,hlen]
 have mo:=moved_own (L++[c]) q (by simp [hlen]; omega) (by omega);rw [<- hM] at mo hdig;have hle:=Nm.trim_length_le M;refine WS_seq (WS_regD [24] ?_); simp [hlen,take_all' hlen,hd,hwq];refine ⟨by omega,?_⟩;refine callDO mo ?_; simp;refine callGD (plain_given M (by omega)) ?_; simp;refine ⟨rfl,?_⟩;refine WS_ret ?_;rw [<- hdig];simp [U,hle,take_trim]
theorem sub_own (a b:List Nat) (ha:Nm.Dl 18446744073709551616 a) (hb:Nm.Dl 18446744073709551616 b) (la:a.length<=2^40) (lb:b.length<=2^40) (h:Nm.val 18446744073709551616 b<=Nm.val 18446744073709551616 a):
 Spec Tryz.prog f_nat_Sub [U a,U b] (· =[.own 118 none (uL (Nm.dig 18446744073709551616 (Nm.val 18446744073709551616 a-Nm.val 18446744073709551616 b))),.pure (.i .i64 0)]):=by
 refine spec_at Tryz.func131 ok_nat_Sub [true] rfl (by simp) ?_;unfold sc_nat_Sub;refine Wr ?_; simp [U];refine WS_frz 2 2 none ?_;simp [frzQ];refine WS_frz 3 3 none ?_;simp [frzQ];refine Wr ?_; simp [max_len];obtain ⟨hr1,hr2⟩:=Nm.crun_sub (by omega) ha hb (n:=max a.length b.length) (by omega) (by omega);refine callK (carried_spec (max a.length b.length) (by omega) f_nat_Sub_1 [.ref none (U a),.ref none (U b)] (Nm.subF 18446744073709551616 a b) (·<=1) (by omega) (λk c hk hc=>⟨sub1_spec a b k c hc,Nm.sub_carry _ a b k c⟩)) ?_;have hv:=Nm.val_lt ha;have hp:=Nm.trim_pad (B:=18446744073709551616) (by omega) (k:=max a.length b.length) (n:=Nm.val 18446744073709551616 a-Nm.val 18446744073709551616 b) (Nat.lt_of_le_of_lt (Nat.sub_le _ _) (Nat.lt_of_lt_of_le hv (Nat.pow_le_pow_right (by omega) (by omega))));have hl:=Nm.pad_length 18446744073709551616 (max a.length b.length) (Nm.val 18446744073709551616 a-Nm.val 18446744073709551616 b);have hr:=hr1 h;obtain ⟨L,hL⟩:∃ L,L=Nm.pad 18446744073709551616 (max a.length b.length) (Nm.val 18446744073709551616 a-Nm.val 18446744073709551616 b):=⟨_,rfl⟩;rw [<- hL] at hp hl hr;have hle:=Nm.trim_length_le L;simp [hr,U];refine Ws ?_; simp;refine WS_cF (by simp) ?_;refine WS_skip ?_; simp;refine Wr ?_; simp;refine callG (plain_given L (by omega)) ?_; simp;refine WS_ret ?_;rw [<- hp];simp [hle,take_trim]
theorem less_own (a b:List Nat) (ha:Nm.Dl 18446744073709551616 a) (hb:Nm.Dl 18446744073709551616 b) (la:a.length<=2^40) (lb:b.length<=2^40) (h:Nm.val 18446744073709551616 b<=Nm.val 18446744073709551616 a):
 Spec Tryz.prog f_nat_less [U a,U b] (· =[.own 118 none (uL (Nm.dig 18446744073709551616 (Nm.val 18446744073709551616 a-Nm.val 18446744073709551616 b)))]):=by
 refine spec_at Tryz.func170 ok_nat_less [true] rfl (by simp) ?_;unfold sc_nat_less;refine Wr ?_; simp;refine Wr ?_; simp;refine callK (sub_own a b ha hb la lb h) ?_; simp;refine Wr ?_; simp;refine WS_ret ?_; simp [take_all']
theorem callDR {P:Program} {S:St} {f:FuncId} {args:List V} {K:St->List Ent->Prop} {dst:Option Nat} {i:Nat} {X:Prop} {R:List RV->Prop} (h:Spec P f args R) (hex:∃ r,R r) (k:∀ r,R r->r.any RV.isOwn=false/\K (S.put dst (pureSV r)) (callEnt i)):CallD P f args K S dst i X:=
 .inl ⟨_,h,hex,λr hr=>by rw [pureSV_ret (k r hr).1,retEnts_none (k r hr).1]; exact (k r hr).2⟩
theorem lz_facts {x:Nat} (h0:x≠0) (hx:x<18446744073709551616):(x+1)*2^(64-Lib.bitLen x)<=18446744073709551616:=by
 have h1:=(bitLen_spec x h0 hx).1;have h2:=bitLen_le64 hx
 calc (x+1)*2^(64-Lib.bitLen x)<=2^Lib.bitLen x*2^(64-Lib.bitLen x):=Nat.mul_le_mul_right _ h1
  _=2^64:=by rw [<- Nat.pow_add]; congr 1; omega
def SC.snd:SC->SC
 | .seq _ b=>b
 | x=>x
def SC.fst:SC->SC
 | .seq a _=>a
 | .block _ b=>b
 | .loop b=>b
 | x=>x
theorem cmp_le {a b:Nat} (h:a<=b):¬ 0<Nm.cmpN a b:=by
 unfold Nm.cmpN;by_cases h1:a<b
 . rw [if_pos h1]; omega
 . rw [if_neg h1,if_neg (by omega)]; omega
def divTail:SC:=sc_nat_Div.snd.snd.snd.snd.snd.snd.snd.snd.snd
def divBody:SC:=divTail.fst.snd.fst.fst
def divRound:SC:=divBody.snd
def divInner:SC:=divRound.fst.fst.snd.snd.fst
def DB (n m s K:Nat) (v:List Nat) (S:St):Prop:=S.σ 9= .p (.i .i64 (s:Int))/\S.σ 10= .p (.sl none (uL v))/\S.σ 12= .own 66 2 0 (m+1)/\S.σ 14= .p (.i .i64 ((n:Int)+1))/\S.σ 15= .own 83 1 0 K
def DI (n m s K V W0:Nat) (v:List Nat) (k:Nat) (S:St):Prop:=DB n m s K v S/\S.σ 16= .p (.i .i64 ((k:Int)-1))/\∃ u q:List Nat,S.h 66=⟨2,some (.arr 118 none (uL u))⟩/\S.h 83=⟨1,some (.arr 118 none (uL q))⟩/\
 u.length=m+1/\Nm.Dl 18446744073709551616 u/\q.length=K/\Nm.Dl 18446744073709551616 q/\(∀ p,p<k->q.getD p 0=0)/\W0=V*Nm.val 18446744073709551616 q+Nm.val 18446744073709551616 u/\Nm.val 18446744073709551616 (u.drop k)<V
def DP (n m s K T V i:Nat) (v u q pt:List Nat) (S:St):Prop:=∃ z:Nat,DB n m s K v S/\S.σ 16= .p (.i .i64 (i:Int))/\S.h 66=⟨2,some (.arr 118 none (uL u))⟩/\S.h 83=⟨1,some (.arr 118 none (uL q))⟩/\S.σ 18= .p (.sl none (uL pt))/\S.σ 17= .p (.i .u64 (z:Int))/\z<18446744073709551616/\z=T / V
theorem ndiv_inner (n m s K V T i z0:Nat) (v u q pt:List Nat) (S:St) (hn:1<=n) (hnm:n+1<=m) (hm36:m<=2^36) (hVpos:0<V) (v3:V<18446744073709551616^(n+1)) (vlen:v.length=n+1) (dV:Nm.Dl 18446744073709551616 v) (vV:Nm.val 18446744073709551616 v=V)
 (plen:pt.length=n+2) (pval:Nm.val 18446744073709551616 pt=T) (pdl:Nm.Dl 18446744073709551616 pt) (hz0:z0<18446744073709551616) (hzT:T / V<=z0)
 (sb:DB n m s K v S) (s16:S.σ 16= .p (.i .i64 (i:Int))) (h66:S.h 66=⟨2,some (.arr 118 none (uL u))⟩) (h83:S.h 83=⟨1,some (.arr 118 none (uL q))⟩) (s18:S.σ 18= .p (.sl none (uL pt))) (s17:S.σ 17= .p (.i .u64 (z0:Int))):
 WS Tryz.prog 163 divInner (λe S=>e= .normal/\DP n m s K T V i v u q pt S) S:=by
 unfold divInner divRound divBody divTail sc_nat_Div;simp only [SC.snd,SC.fst];unfold DB at sb;refine WS_block (WS_loop (λS=>∃ z:Nat,(S.σ 9= .p (.i .i64 (s:Int))/\S.σ 10= .p (.sl none (uL v))/\S.σ 12= .own 66 2 0 (m+1)/\S.σ 14= .p (.i .i64 ((n:Int)+1))/\S.σ 15= .own 83 1 0 K)/\S.σ 16= .p (.i .i64 (i:Int))/\
  S.h 66=⟨2,some (.arr 118 none (uL u))⟩/\S.h 83=⟨1,some (.arr 118 none (uL q))⟩/\S.σ 18= .p (.sl none (uL pt))/\S.σ 17= .p (.i .u64 (z:Int))/\z<18446744073709551616/\T / V<=z) (λS=>match S.σ 17 with | .p (.i _ k)=>k.toNat | _=>0)
  ⟨z0,sb,s16,h66,h83,s18,s17,hz0,hzT⟩ ?_)
 clear sb s16 h66 h83 hz0 hzT s17 s18 z0;clear S;rintro S ⟨z,⟨s9,s10,s12,s14,s15⟩,s16,h66,h83,s18,s17,hz,hzT⟩;have rw1:=row_spec v dV z hz (by omega);rw [vV,vlen] at rw1;have pl:=Nm.pad_length 18446744073709551616 (n+1+1) (V*z);have pd:=Nm.pad_lt (B:=18446744073709551616) (by omega) (n+1+1) (V*z);have pvz:=Nm.val_pad 18446744073709551616 (n+1+1) (V*z);rw [Nat.mod_eq_of_lt (by rw [Nat.pow_succ]; exact Nat.mul_lt_mul_of_lt_of_le v3 (Nat.le_of_lt hz) (by omega))] at pvz;obtain ⟨pz,hpz⟩:∃ y,y=Nm.pad 18446744073709551616 (n+1+1) (V*z):=⟨_,rfl⟩;rw [<- hpz] at rw1 pl pd pvz;have cm:=ncmp_spec pz pt pd pdl (by omega) (by omega);rw [pvz,pval] at cm;refine Ws ?_; simp [s10,s17];refine callK rw1 ?_; simp [s18];refine callK cm ?_;by_cases hgt:T<V*z
 . have ec:Nm.cmpN (V*z) T=1:=by unfold Nm.cmpN; rw [if_neg (Nat.not_lt.2 (Nat.le_of_lt hgt)),if_pos hgt]
   have hz1:T / V<z:=(Nat.div_lt_iff_lt_mul hVpos).2 (by rw [Nat.mul_comm]; exact hgt);have hz2:1<=z:=Nat.lt_of_le_of_lt (Nat.zero_le _) hz1;have u1:=u64_sub z 1 hz2 hz;have u1':IntKind.u64.wrap ((z:Int)-1)=((z-1:Nat):Int):=u1;rw [ec];simp;refine WS_cT (by simp) ?_;refine WS_skip ?_; simp;refine WS_block (WS_reg [] ?_); simp [s9,s10,s12,s14,s15,s16,h66,h83,s18,s17,u1'];exact ⟨⟨z-1,rfl,by omega,Nat.le_sub_one_of_lt hz1⟩,Nat.sub_lt hz2 (by omega)⟩
 . have ec:¬ 0<Nm.cmpN (V*z) T:=cmp_le (Nat.le_of_not_lt hgt);have hzV:V*z<=T:=Nat.le_of_not_lt hgt;have hzle:z<=T / V:=(Nat.le_div_iff_mul_le hVpos).2 (by rw [Nat.mul_comm]; exact hzV);simp [ec];refine WS_cF (by simp) ?_;refine WS_exit ?_; simp;exact ⟨z,⟨s9,s10,s12,s14,s15⟩,s16,h66,h83,s18,s17,hz,Nat.le_antisymm hzle hzT⟩
set_option maxHeartbeats 1000000 in
theorem ndiv_round (n m s K V W0 i:Nat) (v:List Nat) (S:St) (hn:1<=n) (hnm:n+1<=m) (hm36:m<=2^36) (hK:K=m-n) (v2:18446744073709551616^n<=V) (v3:V<18446744073709551616^(n+1))
 (vlen:v.length=n+1) (dV:Nm.Dl 18446744073709551616 v) (vV:Nm.val 18446744073709551616 v=V) (htop:0<v.getD n 0) (hk:i+1<=K) (hI:DI n m s K V W0 v (i+1) S):
 WS Tryz.prog 163 divRound (λe S=>e= .normal/\DI n m s K V W0 v i S) S:=by
 obtain ⟨⟨s9,s10,s12,s14,s15⟩,s16,u,q,h66,h83,ul',du,ql,dq,qz,hW,hlow⟩:=hI;have hinner:=λT z0 u q pt S hT=>ndiv_inner n m s K V T i z0 v u q pt S hn hnm hm36 hT v3 vlen dV vV;unfold divInner at hinner;unfold divRound divBody divTail sc_nat_Div at hinner ⊢;simp only [SC.snd,SC.fst] at hinner ⊢;have hVpos:0<V:=Nat.lt_of_lt_of_le (Nat.pow_pos (by omega)) v2;have tv:=Nm.two_val (B:=18446744073709551616) (by omega) dV (show 2<=n+1 by omega) vlen;have tV:0<V / 18446744073709551616^(n-1):=Nat.div_pos (Nat.le_trans (Nat.pow_le_pow_right (by omega) (by omega)) v2) (Nat.pow_pos (by omega));rw [vV] at tv;have w1:=i64_nat n (by omega);have hi1:((i+1:Nat):Int)-1=(i:Int):=by omega
 rw [hi1] at s16;have high:=Nm.part_high (B:=18446744073709551616) (n:=n+1) (by omega) du v3 hlow;have pv:=Nm.part_val (B:=18446744073709551616) (n:=n+1) (by omega) high;have th:=Nm.three_val (B:=18446744073709551616) (n:=n+1) (by omega) du (by omega) high;obtain ⟨T,hT⟩:∃ z,z=Nm.val 18446744073709551616 (u.drop i):=⟨_,rfl⟩;rw [<- hT] at pv th;have hTx:=Nm.val_drop 18446744073709551616 u i;rw [<- hT] at hTx;have qlt:=Nm.quot_lt (B:=18446744073709551616) hVpos (du.get (by omega) i) hTx hlow;have qle:=Nm.quot_le (T:=T) (E:=18446744073709551616^(n-1)) (Nat.pow_pos (by omega)) tV;have tv':v.getD n 0*18446744073709551616+v.getD (n-1) 0=V / 18446744073709551616^(n-1):=tv;have th':(u.getD (i+(n+1)) 0*18446744073709551616+u.getD (i+n) 0)*18446744073709551616+u.getD (i+n-1) 0=T / 18446744073709551616^(n-1):=th;rw [<- tv',<-th'] at qle;have gs:=guess_spec (u.getD (i+(n+1)) 0) (u.getD (i+n) 0) (u.getD (i+n-1) 0) (v.getD n 0) (v.getD (n-1) 0) (du.get (by omega) _) (du.get (by omega) _) (du.get (by omega) _) (dV.get (by omega) _) (dV.get (by omega) _) htop;obtain ⟨j2,hj2⟩:∃ z,z=i+(n+1):=⟨_,rfl⟩;obtain ⟨j1,hj1⟩:∃ z,z=i+n:=⟨_,rfl⟩;obtain ⟨j0,hj0⟩:∃ z,z=i+n-1:=⟨_,rfl⟩;obtain ⟨n0,hn0⟩:∃ z,z=n-1:=⟨_,rfl⟩;rw [<- hj0,<-hj2,<-hj1,<-hn0] at gs qle;have b2:j2<u.length:=by omega
 have b1:j1<u.length:=by omega
 have b0:j0<u.length:=by omega
 have c1:n<v.length:=by omega
 have c0:n0<v.length:=by omega
 have b2':j2<m+1:=by omega
 have b1':j1<m+1:=by omega
 have b0':j0<m+1:=by omega
 have d1:(j2:Int)<(m:Int)+1:=by omega
 have d2:(j1:Int)<(m:Int)+1:=by omega
 have d3:(j0:Int)<(m:Int)+1:=by omega
 have c1':(n:Int)<(n:Int)+1:=by omega
 have c0'':n0<n+1:=by omega
 have c0':(n0:Int)<(n:Int)+1:=by omega
 have x2:IntKind.i64.wrap ((i:Int)+((n:Int)+1))=(j2:Int):=by rw [i64_int _ (by omega) (by omega)]; omega
 have x1:IntKind.i64.wrap ((j2:Int)-1)=(j1:Int):=by rw [i64_int _ (by omega) (by omega)]; omega
 have x0:IntKind.i64.wrap ((j2:Int)-2)=(j0:Int):=by rw [i64_int _ (by omega) (by omega)]; omega
 have y0:IntKind.i64.wrap ((n:Int)+1-2)=(n0:Int):=by rw [i64_int _ (by omega) (by omega)]; omega
 obtain ⟨p2,hp2'⟩:∃ z,z=u.getD j2 0:=⟨_,rfl⟩;obtain ⟨p1',hp1'⟩:∃ z,z=u.getD j1 0:=⟨_,rfl⟩;obtain ⟨p0,hp0'⟩:∃ z,z=u.getD j0 0:=⟨_,rfl⟩;obtain ⟨r1,hr1'⟩:∃ z,z=v.getD n 0:=⟨_,rfl⟩;obtain ⟨r0,hr0'⟩:∃ z,z=v.getD n0 0:=⟨_,rfl⟩;rw [<- hp2',<-hp1',<-hp0',<-hr1',<-hr0'] at gs qle;have g2:u[j2]=p2:=by rw [hp2']; simp [List.getD,b2]
 have g1:u[j1]=p1':=by rw [hp1']; simp [List.getD,b1]
 have g0:u[j0]=p0:=by rw [hp0']; simp [List.getD,b0]
 have f1:v[n]=r1:=by rw [hr1']; simp [List.getD,c1]
 have f0:v[n0]=r0:=by rw [hr0']; simp [List.getD,c0]
 refine WS_seq (WS_block (WS_seq (WS_regD [] ?_))); simp [s10,s12,s14,s16,h66,x2,x1,x0,y0,w1,b2,b1,b0,c1,c0,b2',b1',b0',d1,d2,d3,c1',c0',c0'',g2,g1,g0,f1,f0,vlen,ul'];refine callDR gs ⟨_,18446744073709551615,rfl,by omega,λt h _=>by omega⟩ ?_;rintro _ ⟨z0,rfl,hz0,hz1⟩;refine ⟨rfl,?_⟩;simp;refine ⟨rfl,?_⟩;have y2:IntKind.i64.wrap ((j2:Int)+1)=((j2+1:Nat):Int):=i64_succ j2 (by omega);have plen:((u.drop i).take (j2+1-i)).length=n+2:=by simp; omega
 have pval:Nm.val 18446744073709551616 ((u.drop i).take (j2+1-i))=T:=by
  rw [<- pv,<-List.drop_take,show i+(n+1)+1=j2+1 by omega]
 have pdl:Nm.Dl 18446744073709551616 ((u.drop i).take (j2+1-i)):=(du.drop i).take _;obtain ⟨pt,hpt⟩:∃ z,z=(u.drop i).take (j2+1-i):=⟨_,rfl⟩;rw [<- hpt] at plen pval pdl;have b3:((j2+1:Nat):Int)<=(m:Int)+1:=by omega
 have b4:(i:Int)<=((j2+1:Nat):Int):=by omega
 have b5:i+(j2+1-i)<=m+1:=by omega
 have b6:j2+1-i=n+2:=by omega
 refine WS_seq (WS_reg [122,130] ?_); simp [s12,s14,s16,h66,x2,y2];refine ⟨⟨by omega,by omega⟩,⟨by omega,by omega,by omega⟩,?_⟩;have hzT:T / V<=z0:=hz1 _ qlt qle;refine WS_cut _ (hinner T z0 u q pt _ hVpos plen pval pdl hz0 hzT ⟨by simp [s9],by simp [s10],by simp [s12],by simp [s14],by simp [s15]⟩ (by simp [s16]) (by simp [h66]) (by simp [h83]) (by simp [hpt]) (by simp)) ?_;clear s9 s10 s12 s14 s15 s16 h66 h83 hz0 hz1 hzT z0 gs hinner;clear S;rintro S ⟨z,⟨s9,s10,s12,s14,s15⟩,s16,h66,h83,s18,s17,hz,hzz⟩;have rw1:=row_spec v dV z hz (by omega);rw [vV,vlen] at rw1;have pl:=Nm.pad_length 18446744073709551616 (n+1+1) (V*z);have pd:=Nm.pad_lt (B:=18446744073709551616) (by omega) (n+1+1) (V*z);have pvz:=Nm.val_pad 18446744073709551616 (n+1+1) (V*z);rw [Nat.mod_eq_of_lt (by rw [Nat.pow_succ]; exact Nat.mul_lt_mul_of_lt_of_le v3 (Nat.le_of_lt hz) (by omega))] at pvz;obtain ⟨pz,hpz⟩:∃ y,y=Nm.pad 18446744073709551616 (n+1+1) (V*z):=⟨_,rfl⟩;rw [<- hpz] at rw1 pl pd pvz;have cm:=ncmp_spec pz pt pd pdl (by omega) (by omega);rw [pvz,pval] at cm;have hdm:=Nat.div_add_mod T V;have hml:=Nat.mod_lt T hVpos;have hzV:V*z<=T:=by rw [hzz]; exact Nat.mul_div_le T V
 have hTz:T-V*z=T%V:=by rw [hzz]; exact Nat.sub_eq_of_eq_add (by rw [Nat.add_comm]; exact hdm.symm)
 have iK:i<K:=by omega
 have iq:i<q.length:=by omega
 refine Wr ?_; simp [s15,s16,s17,h83,iK,iq];have lo:=less_own pt pz pdl pd (by omega) (by omega) (by rw [pvz,pval]; exact hzV);rw [pvz,pval,hTz] at lo;have hfit:T%V<18446744073709551616^(n+2):=Nat.lt_of_lt_of_le hml (Nat.le_trans (Nat.le_of_lt v3) (Nat.pow_le_pow_right (by omega) (by omega)));obtain ⟨fl1,fl2,fl3⟩:=Nm.fill_val (B:=18446744073709551616) (by omega) hfit;have fl0:=Nm.dig_length_le (B:=18446744073709551616) (by omega) hfit;obtain ⟨R,hR⟩:∃ y,y=Nm.dig 18446744073709551616 (T%V):=⟨_,rfl⟩;rw [<- hR] at lo fl1 fl2 fl3 fl0;obtain ⟨n2,hn2⟩:∃ y,y=n+2:=⟨_,rfl⟩;have y3:IntKind.i64.wrap ((n:Int)+1+1)=(n2:Int):=by rw [i64_int _ (by omega) (by omega)]; omega
 refine WS_regD [] ?_; simp [s10,s12,s14,s16,s17,s18,h66,y3];refine ⟨by omega,?_⟩;refine callD rw1 rfl ?_; simp;refine callDO lo ?_;have hmin:min n2 (m+1-i)=n2:=by omega
 simp [s14,y3,h66,hmin];refine ⟨⟨by omega,by omega⟩,by omega,by omega,rfl,?_⟩;have y4:IntKind.i64.wrap ((i:Int)-1)=(i:Int)-1:=i64_int _ (by omega) (by omega);obtain ⟨L,hL⟩:∃ y,y=(R++List.replicate n2 0).take n2:=⟨_,rfl⟩;rw [<- hn2,<-hL] at fl1 fl2 fl3;obtain ⟨rv1,rv2⟩:=Nm.round_val (B:=18446744073709551616) (V:=V) (n:=n+1) (k:=i) (x:=z) (T:=T) (L:=L) (by omega) high hT (by omega) (by rw [fl2,hTz]) hzV;rw [show i+(n+1)+1=i+n2 by omega] at rv1 rv2;refine WS_reg [] ?_; simp [s9,s10,s12,s14,s15,s16,h66,h83,y4];have hLL:(((R++List.replicate n2 0).take n2).take n2)=L:=by rw [List.take_take,Nat.min_self,hL]
 rw [hLL,<-List.append_assoc];have hset:=Nm.set_zero (B:=18446744073709551616) (c:=z) iq (qz i (by omega));have hl2:(u.take i++L++u.drop (i+n2)).length=m+1:=by simp; omega
 refine ⟨⟨s9,s10,s12,s14,s15⟩,rfl,_,_,rfl,rfl,hl2,((du.take i).append fl3).append (du.drop _),by simp [ql],dq.set hz i,λp hp=>?_,?_,?_⟩
 . have hz:=qz p (by omega);have:=Nm.getD_set_ne (l:=q) (show i≠p by omega) z;rw [hz] at this
   simpa [List.getD] using this
 . rw [hW,hset,<-rv1,Nat.mul_add,Nat.mul_left_comm V];omega
 . rw [rv2,hTz]; exact hml
theorem ndiv_loop (n m s K V W0 A D:Nat) (v uu:List Nat) (S:St) (hn:1<=n) (hnm:n+1<=m) (hm36:m<=2^36) (hs63:s<=64) (hK:K=m-n) (hV:V=D*2^s) (hW0:W0=A*2^s) (v2:18446744073709551616^n<=V) (v3:V<18446744073709551616^(n+1))
 (first:W0 / 18446744073709551616^(m-(n+1)+1)<V) (vlen:v.length=n+1) (dV:Nm.Dl 18446744073709551616 v) (vV:Nm.val 18446744073709551616 v=V) (htop:0<v.getD n 0)
 (uul:uu.length=m+1) (duu:Nm.Dl 18446744073709551616 uu) (vuu:Nm.val 18446744073709551616 uu=W0)
 (s9:S.σ 9= .p (.i .i64 (s:Int))) (s10:S.σ 10= .p (.sl none (uL v))) (s12:S.σ 12= .own 66 2 0 (m+1)) (s14:S.σ 14= .p (.i .i64 ((n:Int)+1))) (s15:S.σ 15= .own 83 1 0 K)
 (h66:S.h 66=⟨2,some (.arr 118 none (uL uu))⟩) (h83:S.h 83=⟨1,some (.arr 118 none (uL (List.replicate K 0)))⟩):
 WS Tryz.prog 163 divTail (retQ [.tmp 4,.tmp 5,.tmp 6] [] (· =[.pure (U (Nm.dig 18446744073709551616 (A / D))),.pure (U (Nm.dig 18446744073709551616 (A%D))),.pure (.i .i64 0)])) S:=by
 have hround:=λi S=>ndiv_round n m s K V W0 i v S hn hnm hm36 hK v2 v3 vlen dV vV htop;unfold divRound divBody at hround;unfold divTail sc_nat_Div at hround ⊢;simp only [SC.snd,SC.fst] at hround ⊢;have hVpos:0<V:=Nat.lt_of_lt_of_le (Nat.pow_pos (by omega)) v2;have w6:IntKind.i64.wrap ((K:Int)-1)=(K:Int)-1:=i64_int _ (by omega) (by omega);refine Ws ?_; simp [s9,s10,s12,s14,s15,h66,h83,w6];refine WS_block (WS_loop (λS=>∃ k:Nat,k<=K/\DI n m s K V W0 v k S) (λS=>match S.σ 16 with | .p (.i _ k)=>(k+1).toNat | _=>0)
  ⟨K,Nat.le_refl _,⟨by simp [s9],by simp [s10],by simp [s12],by simp [s14],by simp [s15]⟩,by simp,uu,List.replicate K 0,by simp [h66],by simp [h83],uul,duu,by simp,Nm.Dl.replicate (by omega) _,λp _=>by simp [List.getD,List.getElem?_replicate]; split<;>simp,by rw [Nm.val_replicate,vuu]; simp,?_⟩ ?_)
 . rw [Nm.val_drop_div (by omega) duu,vuu,hK,show m-n=m-(n+1)+1 by omega]; exact first
 clear s9 s10 s12 s14 s15 h66 h83;clear S;rintro S ⟨k,hk,hI⟩;have s16:=hI.2.1;refine Ws ?_; simp [s16];by_cases hp:0<k
 . obtain ⟨i,rfl⟩:∃ i,k=i+1:=⟨k-1,by omega⟩;refine WS_cT (by simp; omega) ?_;refine WS_skip ?_; simp;refine (hround i _ hk ?_).mono ?_
   . obtain ⟨⟨s9,s10,s12,s14,s15⟩,s16,u,q,h66,h83,r⟩:=hI;exact ⟨⟨by simp [s9],by simp [s10],by simp [s12],by simp [s14],by simp [s15]⟩,by simp [s16],u,q,by simp [h66],by simp [h83],r⟩
   . rintro e S' ⟨rfl,hS'⟩;have:=hS'.2.1;simp [this];exact ⟨i,by omega,hS'⟩
 . have hk0:k=0:=by omega
   subst hk0;refine WS_cF (by simp) ?_;refine WS_exit ?_; simp;obtain ⟨⟨s9,s10,s12,s14,s15⟩,s16,u,q,h66,h83,ul',du,ql,dq,qz,hW,hlow⟩:=hI;rw [List.drop_zero] at hlow;obtain ⟨e1,e2⟩:=Nm.div_end hW hlow hW0 hV (Nat.pow_pos (by omega));have pq:=plain_spec q (by omega);rw [<- Nm.dig_val (by omega) dq,e1] at pq;have sr:=nshr_spec u du (by omega) (s:Int) (by omega);rw [Int.toNat_natCast,e2] at sr;obtain ⟨Q,hQ⟩:∃ y,y=Nm.dig 18446744073709551616 (A / D):=⟨_,rfl⟩;obtain ⟨R,hR⟩:∃ y,y=Nm.dig 18446744073709551616 (A%D):=⟨_,rfl⟩;rw [<- hQ] at pq ⊢;rw [<- hR] at sr ⊢;refine WS_frz 83 15 none ?_;simp [frzQ,s15,h83,ql,take_all' ql];refine WS_frz 66 12 none ?_;simp [frzQ,s12,h66,ul',take_all' ul'];refine Wr ?_; simp [s9];refine callK pq ?_; simp [s9];refine callK sr ?_; simp;refine WS_ret ?_; simp
theorem ndiv_gen (a b:List Nat) (ha:Nm.Dl 18446744073709551616 a) (hb:Nm.Dl 18446744073709551616 b) (la:a.length<=2^36) (lb:b.length<=2^36) (h1:18446744073709551616<=Nm.val 18446744073709551616 b) (hle:Nm.val 18446744073709551616 b<=Nm.val 18446744073709551616 a):
 Spec Tryz.prog f_nat_Div [U a,U b] (· =[.pure (U (Nm.dig 18446744073709551616 (Nm.val 18446744073709551616 a / Nm.val 18446744073709551616 b))),.pure (U (Nm.dig 18446744073709551616 (Nm.val 18446744073709551616 a%Nm.val 18446744073709551616 b))),.pure (.i .i64 0)]):=by
 refine spec_at Tryz.func125 ok_nat_Div [] rfl (by simp) ?_;unfold sc_nat_Div;have p1:=plain_spec a (by omega);have p2:=plain_spec b (by omega);have l1:=Nm.trim_length_le a;have l2:=Nm.trim_length_le b;rw [<- Nm.dig_val (by omega) ha] at p1 l1;rw [<- Nm.dig_val (by omega) hb] at p2 l2;obtain ⟨A,hA⟩:∃ v,v=Nm.val 18446744073709551616 a:=⟨_,rfl⟩;obtain ⟨D,hD⟩:∃ v,v=Nm.val 18446744073709551616 b:=⟨_,rfl⟩;rw [<- hA] at p1 l1 hle ⊢;rw [<- hD] at p2 l2 h1 hle ⊢;clear hA hD ha hb;obtain ⟨n,n1,n2,n3,n4,n5⟩:=Nm.top_facts (B:=18446744073709551616) (by omega) (N:=D) (by omega);obtain ⟨x,hx⟩:∃ z,z=(Nm.dig 18446744073709551616 D).getD n 0:=⟨_,rfl⟩;rw [<- hx] at n2 n3 n4 n5;have hn:1<=n:=by
  rcases Nat.eq_zero_or_pos n with h | h
  . subst h; simp at n5; omega
  . exact h
 have hlz:=lz_facts n2 n3;have bl64:=bitLen_le64 n3;have lz:=lz_spec x n3;obtain ⟨s,hs⟩:∃ z,z=64-Lib.bitLen x:=⟨_,rfl⟩;rw [<- hs] at hlz lz;have hs63:s<=64:=by omega
 obtain ⟨v1,v2,v3⟩:=Nm.norm_facts (B:=18446744073709551616) (by omega) n4 n5 n2 hlz;have hp2:0<2^s:=Nat.pow_pos (by omega);have dD:=Nm.dig_lt (B:=18446744073709551616) (by omega) D;have vD:=Nm.val_dig (B:=18446744073709551616) (by omega) D;have dA:=Nm.dig_lt (B:=18446744073709551616) (by omega) A;have vA:=Nm.val_dig (B:=18446744073709551616) (by omega) A;have hAm:=Nm.val_lt dA;have hmono:=Nm.dig_length_mono (B:=18446744073709551616) (by omega) hle;rw [vA] at hAm;have cm:=ncmp_spec (Nm.dig 18446744073709551616 A) (Nm.dig 18446744073709551616 D) dA dD (by omega) (by omega);rw [vA,vD] at cm;have sv:=nshl_spec (Nm.dig 18446744073709551616 D) dD (by omega) (s:Int);rw [if_neg (by omega),vD] at sv;have su:=nshl_own (Nm.dig 18446744073709551616 A) dA (by omega) s (by omega);rw [vA] at su;rw [Int.toNat_natCast] at sv;obtain ⟨m,hm⟩:∃ z,z=(Nm.dig 18446744073709551616 A).length:=⟨_,rfl⟩;rw [<- hm] at hAm l1;have hnm:n+1<=m:=by omega
 obtain ⟨V,hV⟩:∃ z,z=D*2^s:=⟨_,rfl⟩;obtain ⟨W0,hW0⟩:∃ z,z=A*2^s:=⟨_,rfl⟩;rw [<- hV] at v1 v2 v3 sv;rw [<- hW0] at su;have hVpos:0<V:=Nat.lt_of_lt_of_le (Nat.pow_pos (by omega)) v2;have first:=Nm.first_high (B:=18446744073709551616) (by omega) hAm hW0 (show 1<=n+1 by omega) hnm (by simpa using v1)
 have ulen:(Nm.dig 18446744073709551616 W0).length<=m+1:=by
  refine Nm.dig_length_le (by omega) ?_;rw [Nat.pow_succ,hW0];exact Nat.mul_lt_mul_of_lt_of_le hAm (Nat.le_trans (Nat.le_mul_of_pos_left _ (by omega)) hlz) (by omega)
 have vlen:=Nm.dig_len (B:=18446744073709551616) (by omega) v2 v3;have dV:=Nm.dig_lt (B:=18446744073709551616) (by omega) V;have vV:=Nm.val_dig (B:=18446744073709551616) (by omega) V;have tv:=Nm.two_val (B:=18446744073709551616) (by omega) dV (show 2<=n+1 by omega) vlen;have tV:0<V / 18446744073709551616^(n-1):=Nat.div_pos (Nat.le_trans (Nat.pow_le_pow_right (by omega) (by omega)) v2) (Nat.pow_pos (by omega));rw [vV] at tv;have htop:0<(Nm.dig 18446744073709551616 V).getD n 0:=by
  have:=Nm.getD_val (B:=18446744073709551616) (by omega) dV n;rw [this,vV,Nat.mod_eq_of_lt (by rw [Nat.div_lt_iff_lt_mul (Nat.pow_pos (by omega)),Nat.mul_comm,<-Nat.pow_succ]; exact v3)];exact Nat.div_pos v2 (Nat.pow_pos (by omega))
 obtain ⟨v,hv⟩:∃ z,z=Nm.dig 18446744073709551616 V:=⟨_,rfl⟩;rw [<- hv] at sv vlen dV vV tv htop;obtain ⟨u0,hu0⟩:∃ z,z=Nm.dig 18446744073709551616 W0:=⟨_,rfl⟩;have du0:Nm.Dl 18446744073709551616 u0:=by rw [hu0]; exact Nm.dig_lt (by omega) _
 have vu0:Nm.val 18446744073709551616 u0=W0:=by rw [hu0]; exact Nm.val_dig (by omega) _
 rw [<- hu0] at su ulen;obtain ⟨La,hLa⟩:∃ z,z=Nm.dig 18446744073709551616 A:=⟨_,rfl⟩;obtain ⟨Lb,hLb⟩:∃ z,z=Nm.dig 18446744073709551616 D:=⟨_,rfl⟩;rw [<- hLa] at p1 hm cm su;rw [<- hLb] at p2 n1 cm sv hx;have hx':Lb[n]? =some x:=by
  have hlt:n<Lb.length:=by omega
  rw [hx]; simp [List.getD,hlt]
 have hxg:Lb[n]'(by omega)=x:=by
  rw [hx]; simp [List.getD,show n<Lb.length by omega]
 refine Wr ?_; simp;refine Wr ?_; simp;refine callK p1 ?_; simp;refine callK p2 ?_; simp;have e1:((n:Int)+1 == 1)=false:=by simp; omega
 have e0':((n:Int)+1 == 0)=false:=by simp; omega
 refine WS_seq (WS_block (Wr ?_)); simp [U,n1,e0'];refine WS_cF (by simp) ?_;refine Wr ?_; simp;refine callK cm ?_;have ecm:¬ Nm.cmpN A D<0:=by unfold Nm.cmpN; rw [if_neg (by omega)]; split<;>omega
 simp [ecm];refine WS_cF (by simp) ?_;refine Wr ?_; simp [n1,e1];refine WS_cF (by simp) ?_;refine WS_skip ?_; simp;have w1:=i64_nat n (by omega);refine Wr ?_; simp [n1,w1,hxg];refine ⟨by omega,?_⟩;refine callK lz ?_; simp;refine Wr ?_; simp;refine callK sv ?_; simp;refine Wr ?_; simp;refine callK su ?_; simp;refine Wr ?_; simp [U,vlen];have w2:IntKind.i64.wrap ((m:Int)+1)=(m:Int)+1:=i64_int _ (by omega) (by omega);have w3:IntKind.i64.wrap ((m:Int)+1-u0.length)=((m+1-u0.length:Nat):Int):=by rw [i64_int _ (by omega) (by omega)]; omega
 refine Wr ?_; simp [<- hm,w2,w3];refine ⟨by omega,?_⟩;have ul:u0.length+(m+1-u0.length)=m+1:=by omega
 have w4:IntKind.i64.wrap ((m:Int)+1-((n:Int)+1))=((m-n:Nat):Int):=by rw [i64_int _ (by omega) (by omega)]; omega
 obtain ⟨uu,huu⟩:∃ z,z=u0++List.replicate (m+1-u0.length) 0:=⟨_,rfl⟩;have uul:uu.length=m+1:=by rw [huu]; simp; omega
 have duu:Nm.Dl 18446744073709551616 uu:=by rw [huu]; exact du0.append (Nm.Dl.replicate (by omega) _)
 have vuu:Nm.val 18446744073709551616 uu=W0:=by rw [huu,Nm.val_append,Nm.val_replicate,vu0]; simp
 obtain ⟨K,hK⟩:∃ z,z=m-n:=⟨_,rfl⟩;rw [<- hK] at w4;have w6:IntKind.i64.wrap ((K:Int)-1)=(K:Int)-1:=i64_int _ (by omega) (by omega);refine Wr ?_; simp [ul,w4,<-huu];refine ⟨by omega,?_⟩;exact ndiv_loop n m s K V W0 A D v uu _ hn hnm (by omega) hs63 hK hV hW0 v2 v3 first vlen dV vV htop uul duu vuu (by simp) (by simp) (by simp) (by simp) (by simp) (by simp) (by simp)
theorem ndiv_less (a b:List Nat) (ha:Nm.Dl 18446744073709551616 a) (hb:Nm.Dl 18446744073709551616 b) (la:a.length<=2^38) (lb:b.length<=2^38) (h:Nm.val 18446744073709551616 a<Nm.val 18446744073709551616 b):
 Spec Tryz.prog f_nat_Div [U a,U b] (· =[.pure (U []),.pure (U (Nm.dig 18446744073709551616 (Nm.val 18446744073709551616 a))),.pure (.i .i64 0)]):=by
 refine spec_at Tryz.func125 ok_nat_Div [] rfl (by simp) ?_;unfold sc_nat_Div;have p1:=plain_spec a (by omega);have p2:=plain_spec b (by omega);have l1:=Nm.trim_length_le a;have l2:=Nm.trim_length_le b;rw [<- Nm.dig_val (by omega) ha] at p1 l1;rw [<- Nm.dig_val (by omega) hb] at p2 l2;obtain ⟨A,hA⟩:∃ v,v=Nm.val 18446744073709551616 a:=⟨_,rfl⟩;obtain ⟨D,hD⟩:∃ v,v=Nm.val 18446744073709551616 b:=⟨_,rfl⟩;rw [<- hA] at p1 l1 h ⊢;rw [<- hD] at p2 l2 h;have vA:=Nm.val_dig (B:=18446744073709551616) (by omega) A;have vD:=Nm.val_dig (B:=18446744073709551616) (by omega) D;have cm:=ncmp_spec (Nm.dig 18446744073709551616 A) (Nm.dig 18446744073709551616 D) (Nm.dig_lt (by omega) _) (Nm.dig_lt (by omega) _) (by omega) (by omega);rw [vA,vD,show Nm.cmpN A D= -1 by unfold Nm.cmpN; rw [if_pos h]] at cm;have nn:=nnorm_spec (Nm.dig 18446744073709551616 A) (by omega);rw [Nm.trim_dig (by omega)] at nn;have hp:=Nm.dig_length_pos (B:=18446744073709551616) (n:=D) (by omega) (by omega);obtain ⟨La,hLa⟩:∃ z,z=Nm.dig 18446744073709551616 A:=⟨_,rfl⟩;obtain ⟨Lb,hLb⟩:∃ z,z=Nm.dig 18446744073709551616 D:=⟨_,rfl⟩;rw [<- hLa] at p1 cm nn ⊢;rw [<- hLb] at p2 cm hp;have e0:(Lb=[])=False:=by
  refine eq_false λh=>?_;rw [h] at hp; cases hp
 have e0':((Lb.length:Int) == 0)=false:=by simp [e0]
 refine Wr ?_; simp;refine Wr ?_; simp;refine callK p1 ?_; simp;refine callK p2 ?_; simp;refine WS_seq (WS_block (Wr ?_)); simp [U,e0'];refine WS_cF (by simp [e0]) ?_;refine Wr ?_; simp;refine callK cm ?_; simp;refine WS_cT (by simp) ?_;refine Wr ?_; simp;refine callK nn ?_; simp;refine WS_ret ?_; simp [U]
theorem ndiv_spec (a b:List Nat) (ha:Nm.Dl 18446744073709551616 a) (hb:Nm.Dl 18446744073709551616 b) (la:a.length<=2^36) (lb:b.length<=2^36) (h0:Nm.val 18446744073709551616 b≠0):
 Spec Tryz.prog f_nat_Div [U a,U b] (· =[.pure (U (Nm.dig 18446744073709551616 (Nm.val 18446744073709551616 a / Nm.val 18446744073709551616 b))),.pure (U (Nm.dig 18446744073709551616 (Nm.val 18446744073709551616 a%Nm.val 18446744073709551616 b))),.pure (.i .i64 0)]):=by
 by_cases h1:Nm.val 18446744073709551616 b<18446744073709551616
 . exact ndiv_one a b ha hb (by omega) (by omega) (by omega) h1
 . by_cases h2:Nm.val 18446744073709551616 a<Nm.val 18446744073709551616 b
   . rw [Nat.div_eq_of_lt h2,Nat.mod_eq_of_lt h2,Nm.dig_zero];exact ndiv_less a b ha hb (by omega) (by omega) h2
   . exact ndiv_gen a b ha hb la lb (by omega) (by omega)
def bV (l:List UInt8):List V:=l.map λb=>.i .u8 b.toNat
theorem bV_length (l:List UInt8):(bV l).length=l.length:=by simp [bV]
theorem bV_reverse (l:List UInt8):(bV l).reverse=bV l.reverse:=by simp [bV]
theorem bV_flat (l:List UInt8):∀ v∈bV l,v.isAgg=false:=by
 intro v hv;obtain ⟨b,_,rfl⟩:=List.mem_map.1 hv;rfl
theorem bV_byte (l:List UInt8):(bV l).map V.byte=l:=by
 simp only [bV,List.map_map];have:(V.byte ∘ λb:UInt8=>V.i .u8 (b.toNat:Int))=id:=by funext b; simp [V.byte]
 rw [this,List.map_id]
theorem bV_ex (l:List UInt8):∃ m:List UInt8,bV l=m.map λb=>V.i .u8 b.toNat:=⟨l,rfl⟩
theorem byte_digit (d:Nat) (h:d<10):IntKind.u8.wrap (IntKind.u64.wrap (48+(d:Int)))=((Nm.txB d).toNat:Int):=by
 rw [Nm.txB_nat h];have e:IntKind.u64.wrap (48+(d:Int))=((48+d:Nat):Int):=u64_addf 48 d (by omega);rw [e,IntKind.wrap_u8];omega
def DigI (x:Nat) (all:Bool) (S:St):Prop:=∃ k g:Nat,k<=20/\(all=true->k<=19)/\(all=false->k=0\/x / 10^(k-1)≠0)/\S.σ 0= .p (.i .u64 ((x / 10^k:Nat):Int))/\S.σ 1= .p (.b all)/\S.σ 5= .own 5 g 0 k/\
 S.h 5=⟨g,some (.arr 5 none (bV ((Nm.pad 10 k x).map Nm.txB)))⟩
def digM (S:St):Nat:=match S.σ 5 with | .own _ _ _ k=>21-k | _=>0
theorem digits_spec (x:Nat) (hx:x<18446744073709551616) (all:Bool) (ha:all=true->x<10^19):
 Spec Tryz.prog f_nat_digits [.i .u64 (x:Int),.b all] (· =[.pure (.s ⟨(if all then Nm.padL 19 x else Nm.decL x).toArray⟩)]):=by
 refine spec_at Tryz.func166 ok_nat_digits [] rfl (by simp) ?_;unfold sc_nat_digits;have hfin:∀ k,x / 10^k≠0->k<20:=λk hk=>by
  rcases Nat.lt_or_ge k 20 with h | h
  . exact h
  . exfalso;refine hk (Nat.div_eq_of_lt (Nat.lt_of_lt_of_le hx ?_));exact Nat.le_trans (by decide:18446744073709551616<=10^20) (Nat.pow_le_pow_right (by omega) h)
 refine Wr ?_; simp;refine WS_seq (WS_reg [5] ?_); simp;refine WS_seq (WS_block (WS_loop (DigI x all) digM ⟨0,1,by omega,by simp,by simp,by simp,by simp,by simp,by simp [Nm.pad,bV]⟩ ?_));rintro S ⟨k,g,hk,hka,hkn,s0,s1,s5,h5⟩;obtain ⟨y,hy⟩:∃ y,y=x / 10^k:=⟨_,rfl⟩;rw [<- hy] at s0;have hylt:y<18446744073709551616:=by rw [hy]; exact Nat.lt_of_le_of_lt (Nat.div_le_self _ _) hx
 have hlen:((Nm.pad 10 k x).map Nm.txB).length=k:=by simp [Nm.pad_length]
 have hy10:y / 10=x / 10^(k+1):=by rw [hy,Nat.div_div_eq_div_mul,Nat.pow_succ]
 have hstep:(0<y\/(all=true/\k<19))->k<20/\(all=true->k+1<=19)/\(all=false->k+1=0\/x / 10^(k+1-1)≠0):=by
  intro h;refine ⟨?_,λh1=>?_,λh1=>?_⟩
  . rcases h with h | h
    . exact hfin k (by rw [<- hy]; omega)
    . omega
  . rcases h with h | h
    . rcases Nat.lt_or_ge k 19 with h2 | h2
      . omega
      . exfalso;have:x / 10^k=0:=Nat.div_eq_of_lt (Nat.lt_of_lt_of_le (ha h1) (Nat.pow_le_pow_right (by omega) h2));rw [<- hy] at this; omega
    . omega
  . rcases h with h | h
    . exact .inr (by rw [Nat.add_sub_cancel,<-hy]; omega)
    . rw [h1] at h; cases h.1
 have round:(0<y\/(all=true/\k<19))->∀ S':St,S'.σ 0= .p (.i .u64 (y:Int))->S'.σ 1= .p (.b all)->S'.σ 5= .own 5 g 0 k->S'.h 5=⟨g,some (.arr 5 none (bV ((Nm.pad 10 k x).map Nm.txB)))⟩->
  WS Tryz.prog 29 sc_nat_digits.snd.snd.fst.fst.fst.snd (λe S''=>e= .normal/\∃ g',S''.σ 0= .p (.i .u64 ((x / 10^(k+1):Nat):Int))/\S''.σ 1= .p (.b all)/\S''.σ 5= .own 5 g' 0 (k+1)/\S''.h 5=⟨g',some (.arr 5 none (bV ((Nm.pad 10 (k+1) x).map Nm.txB)))⟩) S':=by
  intro _ S' t0 t1 t5 th;unfold sc_nat_digits;simp only [SC.snd,SC.fst];have e1:((y:Int)).tmod 10=((y%10:Nat):Int):=tmod_nat y 10;have e2:((y:Int)).tdiv 10=((y / 10:Nat):Int):=tdiv_nat y 10;have hd:y%10<10:=Nat.mod_lt _ (by omega);have e3:=byte_digit (y%10) hd;have e4:IntKind.u64.wrap (((y / 10:Nat)):Int)=((y / 10:Nat):Int):=u64_fit _ (by omega);have hsn:(Nm.pad 10 (k+1) x).map Nm.txB=(Nm.pad 10 k x).map Nm.txB++[Nm.txB (y%10)]:=by rw [Nm.pad_snoc,<-hy,List.map_append]; rfl
  rw [hsn,<-hy10];obtain ⟨L,hL⟩:∃ L,L=(Nm.pad 10 k x).map Nm.txB:=⟨_,rfl⟩;rw [<- hL] at th hlen ⊢;obtain ⟨dg,hdg⟩:∃ d,d=y%10:=⟨_,rfl⟩;obtain ⟨y',hy'⟩:∃ d,d=y / 10:=⟨_,rfl⟩;rw [<- hdg] at e1 e3 ⊢;rw [<- hy'] at e2 e4 ⊢;have htk:(bV L).take k=bV L:=List.take_of_length_le (by rw [bV_length]; omega);refine WS_seq (WS_block (WS_reg [] ?_)); simp [t0,t5,th,e1,e3,bV_length,hlen,htk];refine ⟨by omega,?_⟩;refine WS_reg [] ?_; simp [t0,t1,e2,e4];simp [bV]
 have hmono:∀ S':St,(0<y\/(all=true/\k<19))->(∃ g',S'.σ 0= .p (.i .u64 ((x / 10^(k+1):Nat):Int))/\S'.σ 1= .p (.b all)/\S'.σ 5= .own 5 g' 0 (k+1)/\S'.h 5=⟨g',some (.arr 5 none (bV ((Nm.pad 10 (k+1) x).map Nm.txB)))⟩)->
  DigI x all S'/\digM S'<digM S:=by
  rintro S' hgo ⟨g',a1,a2,a3,a4⟩;obtain ⟨b1,b2,b3⟩:=hstep hgo;refine ⟨⟨k+1,g',by omega,b2,b3,a1,a2,a3,a4⟩,?_⟩;simp only [digM,a3,s5];omega
 unfold sc_nat_digits at round;simp only [SC.snd,SC.fst] at round;have fin:¬ (0<y\/(all=true/\k<19))->((Nm.pad 10 k x).map Nm.txB).reverse=if all then Nm.padL 19 x else Nm.decL x:=by
  intro h;have hy0:x / 10^k=0:=by rw [<- hy]; omega
  rw [<- List.map_reverse];cases all with
  | true=>
   have:k=19:=by
    have:=hka rfl;by_cases h2:k<19
    . exact absurd (.inr ⟨rfl,h2⟩) h
    . omega
   subst this;rfl
  | false=>exact Nm.padL_all hy0 (hkn rfl)
 obtain ⟨T,hT⟩:∃ T,T=(if all then Nm.padL 19 x else Nm.decL x):=⟨_,rfl⟩;rw [<- hT] at fin ⊢;refine Ws ?_;by_cases hy1:0<y
 . simp [s0,hy1];refine WS_cT (by simp) ?_;refine WS_skip ?_;simp only [thenQ];refine (round (.inl hy1) _ (by simp [s0]) (by simp [s1]) (by simp [s5]) (by simp [h5])).mono ?_;rintro e S' ⟨rfl,hS'⟩;exact hmono S' (.inl hy1) hS'
 . have hy0:y=0:=by omega
   cases all with
   | true=>
    by_cases hk19:k<19
    . have hk19':(k:Int)<19:=by omega
      simp [s0,s1,s5,h5,hy0,hk19,hk19'];refine WS_cT (by simp) ?_;refine WS_skip ?_;simp only [thenQ];refine (round (.inr ⟨rfl,hk19⟩) _ (by simp [s0]) (by simp [s1]) (by simp [s5]) (by simp [h5])).mono ?_;rintro e S' ⟨rfl,hS'⟩;exact hmono S' (.inr ⟨rfl,hk19⟩) hS'
    . have hk19':¬ (k:Int)<19:=by omega
      have fin:=fin (by rintro (h | h); · exact hy1 h
                        . exact hk19 h.2)
      have rv:=revb_given (bV ((Nm.pad 10 k x).map Nm.txB)) (bV_flat _) (by rw [bV_length]; omega);rw [bV_reverse,fin] at rv;obtain ⟨L,hL⟩:∃ L,L=(Nm.pad 10 k x).map Nm.txB:=⟨_,rfl⟩;rw [<- hL] at rv h5 hlen fin;have hTl:T.length=k:=by rw [<- fin]; simpa using hlen
      have htk:(bV T).take k=bV T:=List.take_of_length_le (by rw [bV_length]; omega);simp [s0,s1,s5,h5,hy0,hk19,hk19'];refine WS_cF (by simp) ?_;refine WS_exit ?_; simp;refine Wr ?_; simp [s5,h5,bV_length,hlen];refine callG rv ?_; simp;refine Wr ?_; simp [s5,bV_length,hTl,htk,bV_byte,h5];refine ⟨bV_ex T,?_⟩;refine WS_ret ?_; simp
   | false=>
    have fin:=fin (by rintro (h | h); · exact hy1 h
                      . cases h.1)
    have rv:=revb_given (bV ((Nm.pad 10 k x).map Nm.txB)) (bV_flat _) (by rw [bV_length]; omega);rw [bV_reverse,fin] at rv;obtain ⟨L,hL⟩:∃ L,L=(Nm.pad 10 k x).map Nm.txB:=⟨_,rfl⟩;rw [<- hL] at rv h5 hlen fin;have hTl:T.length=k:=by rw [<- fin]; simpa using hlen
    have htk:(bV T).take k=bV T:=List.take_of_length_le (by rw [bV_length]; omega);simp [s0,s1,s5,h5,hy0];refine WS_cF (by simp) ?_;refine WS_exit ?_; simp;refine Wr ?_; simp [s5,h5,bV_length,hlen];refine callG rv ?_; simp;refine Wr ?_; simp [s5,bV_length,hTl,htk,bV_byte,h5];refine ⟨bV_ex T,?_⟩;refine WS_ret ?_; simp
set_option maxRecDepth 100000
open Go.Shelf
def renJ:Ren:=
 { f:=λx=>match x with | 156=>168 | 165=>203 | 166=>204 | 169=>205 | 240=>215 | 241=>216 | 276=>217 | 277=>218 | n=>n
   t:=λx=>match x with | 31=>151 | 9=>9 | 3=>3 | 4=>4 | 0=>0 | 20=>20 | 72=>172 | 76=>175 | 70=>170 | 37=>168 | 75=>174 | 127=>181 | 164=>182 | 5=>5 | 80=>177 | n=>n
   g:=λx=>x }
theorem laysJ:Lays.n156 Tryz.prog renJ:=
 { mixed:=by kernel_rfl
   f156:=by kernel_rfl
   f165:=by kernel_rfl
   f166:=by kernel_rfl
   f169:=by kernel_rfl
   f240:=by kernel_rfl
   f241:=by kernel_rfl
   f276:=by kernel_rfl
   f277:=by kernel_rfl
   t0:=Tryz.underlying0
   a0:=Tryz.isAgg0
   z0:=Tryz.sizeOf0
   v0:=Tryz.zeroValue0
   t3:=Tryz.underlying3
   a3:=Tryz.isAgg3
   z3:=Tryz.sizeOf3
   v3:=Tryz.zeroValue3
   t4:=Tryz.underlying4
   a4:=Tryz.isAgg4
   z4:=Tryz.sizeOf4
   v4:=Tryz.zeroValue4
   t9:=Tryz.underlying9
   a9:=Tryz.isAgg9
   z9:=Tryz.sizeOf9
   v9:=Tryz.zeroValue9
   t20:=Tryz.underlying20
   a20:=Tryz.isAgg20
   z20:=Tryz.sizeOf20
   v20:=Tryz.zeroValue20
   t31:=Tryz.underlying151
   a31:=Tryz.isAgg151
   z31:=Tryz.sizeOf151
   v31:=Tryz.zeroValue151
   t37:=Tryz.underlying168
   a37:=Tryz.isAgg168
   z37:=Tryz.sizeOf168
   v37:=Tryz.zeroValue168
   t70:=Tryz.underlying170
   a70:=Tryz.isAgg170
   z70:=Tryz.sizeOf170
   v70:=Tryz.zeroValue170
   t72:=Tryz.underlying172
   a72:=Tryz.isAgg172
   z72:=Tryz.sizeOf172
   v72:=Tryz.zeroValue172
   t75:=Tryz.underlying174
   a75:=Tryz.isAgg174
   z75:=Tryz.sizeOf174
   v75:=Tryz.zeroValue174
   t76:=Tryz.underlying175
   a76:=Tryz.isAgg175
   z76:=Tryz.sizeOf175
   v76:=Tryz.zeroValue175
   t127:=Tryz.underlying181
   a127:=Tryz.isAgg181
   z127:=Tryz.sizeOf181
   v127:=Tryz.zeroValue181
   t164:=Tryz.underlying182
   a164:=Tryz.isAgg182
   z164:=Tryz.sizeOf182
   v164:=Tryz.zeroValue182
 }
theorem extraJ:Builder.Extra Tryz.prog renJ:=
 { sizeBuilder:=by kernel_rfl
   liesBuilder:=by kernel_rfl
   t5:=Tryz.underlying5
   a5:=Tryz.isAgg5
   z5:=Tryz.sizeOf5
   v5:=Tryz.zeroValue5
   infoByte:=by kernel_rfl
   cellsByte:=by kernel_rfl
   sizeByte:=by kernel_rfl
   neB5:=by decide }
def sV (l:List (List UInt8)):List V:=l.map λx=>V.s ⟨x.toArray⟩
theorem join_flat:∀ xs:List (List UInt8),Lib.join xs []=xs.flatten
 | []=>rfl
 | x::r=>by
  rw [Lib.join_cons,List.flatten_cons,Lib.joinTail];congr 2;exact List.map_id' r
theorem join_spec (xs:List (List UInt8)) (hl:xs.length<=2^40) (hb:xs.flatten.length<=2^40):Spec Tryz.prog f_strings_Join [.sl none (sV xs),.s ⟨#[]⟩] (· =[.pure (.s ⟨xs.flatten.toArray⟩)]):=by
 intro w ok vals hok hrel;refine .inl ⟨enters_run Tryz.func168 (by kernel_rfl) (by kernel_rfl) _ _,?_⟩;obtain ⟨hsz,hr⟩:=hrel;have r0:=hr 0 (by simp);have r1:=hr 1 (by simp);simp only [List.getElem_cons_zero,List.getElem_cons_succ] at r0 r1;have hv:vals=#[vals.getD 0 undef,vals.getD 1 undef]:=by
  apply Array.ext
  . simpa using hsz
  . intro j h1 h2;have hj:j=0\/j=1:=by simp at h2; omega
    rcases hj with rfl | rfl<;>simp [Array.getD,h1]
 rw [hv];have e1:=str_inv r1;rw [e1];generalize vals.getD 0 undef=v0 at r0;have hj:=join_flat xs;have hm:(xs.map λx=>(⟨x.toArray⟩:ByteArray)).map (λb=>b.data.toList)=xs:=by
  rw [List.map_map];have:((λb:ByteArray=>b.data.toList) ∘ λx:List UInt8=>(⟨x.toArray⟩:ByteArray))=id:=by funext x; rfl
  rw [this,List.map_id]
 have fin:∀ (e:Ending) (w':World),e= .returned (.string ⟨xs.flatten.toArray⟩)->Go.RowKit.Below w.heap.size w w'->
  ∃ rvs vs,rvs=[RV.pure (.s ⟨xs.flatten.toArray⟩)]/\e= .returned (packed vs)/\Go.RowKit.Below w.heap.size w w'/\RetOK w w' ok rvs vs:=by
  intro e w' he hb;refine ⟨_,[.string ⟨xs.flatten.toArray⟩],rfl,he,hb,⟨rfl,λj rv hj=>?_,λj k x y b hj hk hx=>?_⟩⟩
  . cases j with
    | zero=>simp only [List.getElem?_cons_zero,Option.some.injEq] at hj; subst hj; exact .s _
    | succ j=>simp at hj
  . cases j with
    | zero=>simp only [List.getElem?_cons_zero,Option.some.injEq] at hj; subst hj; cases hx
    | succ j=>simp at hj
 generalize hxs:sV xs=ys at r0;cases r0 with
 | nil=>
  have h0:xs=[]:=by
   cases xs with
   | nil=>rfl
   | cons _ _=>simp [sV] at hxs
  subst h0;refine (Any.strings_Join_none laysJ extraJ none 0 ⟨#[]⟩ w).mono ?_;rintro e w' ⟨he,rfl⟩;exact fin e w' he (Go.RowKit.Below.refl _ _)
 | void _ a0=>
  have h0:xs=[]:=by
   cases xs with
   | nil=>rfl
   | cons _ _=>simp [sV] at hxs
  subst h0;refine (Any.strings_Join_none laysJ extraJ (some a0) 0 ⟨#[]⟩ w).mono ?_;rintro e w' ⟨he,rfl⟩;exact fin e w' he (Go.RowKit.Below.refl _ _)
 | sl _ _ blk off len cap val hlen hokb hcap hrel hsh hcell=>
  subst hxs;obtain ⟨XS,hXS⟩:∃ z,z=xs.map λx=>(⟨x.toArray⟩:ByteArray):=⟨_,rfl⟩;have hlx:len=XS.length:=by rw [hlen,hXS]; simp [sV]
  have hlX:XS.length=xs.length:=by rw [hXS]; simp
  have hcap':=hcap;rw [hlx] at hcap' ⊢;rw [<- hXS] at hm;have hcells:∀ (j:Nat) x,XS[j]? =some x->w.cell? ⟨blk,off+j,none⟩=some (.string x):=by
   intro j x hj;have hjl:j<(sV xs).length:=by
    have:=(List.getElem?_eq_some_iff.1 hj).1;rw [hlX] at this
    simpa [sV] using this
   have h1:=hrel j hjl;have h2:(sV xs)[j]=V.s x:=by
    rw [hXS] at hj;simp only [List.getElem?_map,Option.map_eq_some_iff] at hj;obtain ⟨y,hy,rfl⟩:=hj;have:=(List.getElem?_eq_some_iff.1 hy).2;simp [sV,this]
   rw [h2] at h1;have h3:=str_inv h1;have h4:=hcell j hjl;rw [h3] at h4;have:=h4 0 (.string x) rfl
   simpa [width] using this
  have hsep:(⟨#[]⟩:ByteArray).data.toList=[]:=rfl;have key:=Any.strings_Join laysJ extraJ blk off cap XS ⟨#[]⟩ w hcells (hok blk hokb) (by omega) hcap' (by rw [hm,hsep,hj]; omega);rw [hm,hsep,hj] at key;have key':Calls Tryz.prog 168 #[.slice (some ⟨blk,off,none⟩) XS.length cap,.string ⟨#[]⟩] w λe w'=>e= .returned (.string ⟨xs.flatten.toArray⟩)/\Go.RowKit.Below w.heap.size w w':=key;exact key'.mono λe w' he=>fin e w' he.1 he.2
theorem sV_length (l:List (List UInt8)):(sV l).length=l.length:=by simp [sV]
theorem sV_reverse (l:List (List UInt8)):(sV l).reverse=sV l.reverse:=by simp [sV]
theorem sV_flat (l:List (List UInt8)):∀ v∈sV l,v.isAgg=false:=by
 intro v hv;obtain ⟨b,_,rfl⟩:=List.mem_map.1 hv;rfl
def TxtI (N L:Nat) (S:St):Prop:=∃ (k g:Nat) (parts:List (List UInt8)),S.σ 0= .p (U (Nm.dig 18446744073709551616 (N / (10^19)^k)))/\S.σ 3= .own 3 g 0 k/\S.h 3=⟨g,some (.arr 9 none (sV parts))⟩/\parts.length=k/\k<=2*L/\
 Nm.decL N=Nm.decL (N / (10^19)^k)++parts.reverse.flatten/\(k=0\/N≠0)
def txtM (S:St):Nat:=match S.σ 0 with | .p (.sl _ xs)=>Nm.val 18446744073709551616 (xs.map λ| .i _ n=>n.toNat | _=>0) | _=>0
theorem txtM_eq {S:St} {l:List Nat} (h:S.σ 0= .p (U l)):txtM S=Nm.val 18446744073709551616 l:=by
 simp only [txtM,h,U,uL,List.map_map];congr 1;have:((λ| V.i _ n=>n.toNat | _=>0) ∘ λx:Nat=>V.i .u64 (x:Int))=id:=by funext x; simp
 rw [this,List.map_id]
theorem ntext_spec (a:List Nat) (ha:Nm.Dl 18446744073709551616 a) (la:a.length<=2^35):Spec Tryz.prog f_nat_Text [U a] (· =[.pure (.s ⟨(Nm.decT (Nm.val 18446744073709551616 a)).toArray⟩)]):=by
 refine spec_at Tryz.func115 ok_nat_Text [] rfl (by simp) ?_;unfold sc_nat_Text;have pl:=plain_spec a (by omega);rw [<- Nm.dig_val (by omega) ha] at pl;have hN:=Nm.val_lt ha;obtain ⟨N,hNd⟩:∃ N,N=Nm.val 18446744073709551616 a:=⟨_,rfl⟩;rw [<- hNd] at pl hN ⊢;obtain ⟨L,hL⟩:∃ L,L=a.length:=⟨_,rfl⟩;rw [<- hL] at hN la;have hdl:=Nm.decL_length hN;refine Wr ?_; simp;refine Wr ?_; simp;refine callK pl ?_; simp;refine WS_seq (WS_reg [3] ?_); simp;refine WS_seq (WS_block (WS_loop (TxtI N L) txtM ⟨0,1,[],by simp,by simp,by simp [sV],rfl,by omega,by simp,.inl rfl⟩ ?_));rintro S ⟨k,g,parts,s0,s3,h3,pk,kL,hdec,hk0⟩;obtain ⟨M,hM⟩:∃ M,M=N / (10^19)^k:=⟨_,rfl⟩;rw [<- hM] at s0 hdec;have hMle:M<=N:=by rw [hM]; exact Nat.div_le_self _ _
 have hml:=txtM_eq s0;rw [Nm.val_dig (by omega)] at hml;have hlen:=Nm.dig_length_le (B:=18446744073709551616) (by omega) (Nat.lt_of_le_of_lt hMle hN);refine Ws ?_; simp [s0,U];by_cases h0:M=0
 . subst h0;rw [Nm.decL_zero,List.nil_append] at hdec;refine WS_cF (by simp [Nm.dig_zero]) ?_;refine WS_exit ?_; simp;refine Ws ?_; simp [s3,h3];by_cases hk:k=0
   . subst hk;have hN0:N=0:=by simpa using hM.symm
     refine WS_cT (by simp) ?_;refine Wr ?_; simp;refine WS_ret ?_; simp [hN0,Nm.decT]
   . have hN0:N≠0:=by omega
     have rv:=revs_given (sV parts) (sV_flat _) (by rw [sV_length]; omega);rw [sV_reverse] at rv;have jn:=join_spec parts.reverse (by simp; omega) (by rw [<- hdec]; omega);rw [<- hdec] at jn;have htk:(sV parts.reverse).take k=sV parts.reverse:=List.take_of_length_le (by rw [sV_length]; simp; omega);have hrl:parts.reverse.length=k:=by simp [pk]
     obtain ⟨Q,hQ⟩:∃ Q,Q=parts.reverse:=⟨_,rfl⟩;rw [<- hQ] at rv jn htk hrl;refine WS_cF (by simp [hk]) ?_;refine WS_skip ?_; simp;refine Wr ?_; simp [s3,h3,sV_length,pk];refine callG rv ?_; simp;refine WS_frz 3 3 none ?_;simp [frzQ,s3,h3,sV_length,hrl,htk];refine Wr ?_; simp;refine callK jn ?_; simp;refine WS_ret ?_; simp [Nm.decT,hN0]
 . have hp:=Nm.dig_length_pos (B:=18446744073709551616) (by omega) h0;have sh:=short_spec (Nm.dig 18446744073709551616 M) (Nm.dig_lt (by omega) _) 10000000000000000000 (by omega) (by omega) (by omega);rw [Nm.val_dig (by omega)] at sh;have hEe:(10000000000000000000:Nat)=10^19:=by decide
   have hr:=Nat.mod_lt M (show 0<10000000000000000000 by omega);have hdd:∀ E:Nat,N / E^k / E=N / E^(k+1):=λE=>by rw [Nat.div_div_eq_div_mul,Nat.pow_succ]
   have hM':M / 10000000000000000000=N / (10^19)^(k+1):=by rw [hM,hEe]; exact hdd _
   have hkL:k<2*L:=by
    rcases Nat.lt_or_ge k (2*L) with h | h
    . exact h
    . exfalso;refine h0 ?_;rw [hM];refine Nat.div_eq_of_lt (Nat.lt_of_lt_of_le hN ?_)
      calc 18446744073709551616^L<=((10^19)^2)^L:=Nat.pow_le_pow_left (by decide) L
       _=(10^19)^(2*L):=(Nat.pow_mul ..).symm
       _<=(10^19)^k:=Nat.pow_le_pow_right (by decide) h
   have hlen':=Nm.dig_length_le (B:=18446744073709551616) (n:=M / 10000000000000000000) (k:=L) (by omega) (Nat.lt_of_le_of_lt (Nat.le_trans (Nat.div_le_self _ _) hMle) hN);obtain ⟨r,hrd⟩:∃ r,r=M%10000000000000000000:=⟨_,rfl⟩;obtain ⟨M',hM'd⟩:∃ r,r=M / 10000000000000000000:=⟨_,rfl⟩;rw [<- hrd] at sh hr;rw [<- hM'd] at sh hM' hlen';have dg:=digits_spec r (by omega) (decide (0<M')) (λ_=>by rw [<- hEe]; exact hr);have hpart:Nm.decL M=Nm.decL M'++(if decide (0<M') then Nm.padL 19 r else Nm.decL r):=by
    by_cases h:0<M'
    . simp only [h,decide_true,if_true];rw [hM'd,hEe] at h ⊢;rw [hrd,hEe,Nm.padL_mod];exact Nm.dec_split (by omega)
    . have h1:M'=0:=by omega
      simp only [h,decide_false,Bool.false_eq_true,if_false];rw [h1,Nm.decL_zero,List.nil_append];congr 1;rw [hrd];exact (Nat.mod_eq_of_lt (by omega)).symm
   obtain ⟨D,hD⟩:∃ D,D=(if decide (0<M') then Nm.padL 19 r else Nm.decL r):=⟨_,rfl⟩;rw [<- hD] at dg hpart;have hgt:decide ((0:Int)<((Nm.dig 18446744073709551616 M').length:Int))=decide (0<M'):=by
    by_cases h:0<M'
    . have:=Nm.dig_length_pos (B:=18446744073709551616) (n:=M') (by omega) (by omega);simp [h]; omega
    . have h1:M'=0:=by omega
      rw [h1,Nm.dig_zero]; simp
   rw [<- hgt] at dg;have hpos:((0:Int)<((Nm.dig 18446744073709551616 M).length:Int)):=by omega
   have htk:(sV parts).take k=sV parts:=List.take_of_length_le (by rw [sV_length]; omega);obtain ⟨DM,hDM⟩:∃ D,D=Nm.dig 18446744073709551616 M:=⟨_,rfl⟩;rw [<- hDM] at s0 sh hp hpos hlen ⊢;obtain ⟨DM',hDM'⟩:∃ D,D=Nm.dig 18446744073709551616 M':=⟨_,rfl⟩;rw [<- hDM'] at sh dg hgt hlen';refine WS_cT (by simpa using hp) ?_;refine WS_skip ?_; simp;refine WS_block (Wr ?_); simp;refine Wr ?_; simp [s0];refine callK sh ?_; simp;refine WS_reg [] ?_; simp [s3,U];refine callK (by simpa using dg) ?_; simp [s3,h3,sV_length,pk,htk];have hM'0:M'<M:=by rw [hM'd]; exact Nat.div_lt_self (by omega) (by omega)
   refine ⟨⟨by omega,by omega⟩,⟨k+1,g+1,parts++[D],by simp [U,hDM',hM'],by simp,by simp [sV],by simp [pk],by omega,?_,.inr ?_⟩,?_⟩
   . rw [<- hM',List.reverse_append,List.reverse_cons,List.reverse_nil,List.nil_append,List.singleton_append,List.flatten_cons,<-List.append_assoc,<-hpart];exact hdec
   . omega
   . rw [hml,txtM_eq (l:=DM') (by simp [U]),hDM',Nm.val_dig (by omega)];exact hM'0
end Go.Vw
