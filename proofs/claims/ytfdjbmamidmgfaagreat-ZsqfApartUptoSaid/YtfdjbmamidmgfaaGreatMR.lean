/- Resultants, squarefree parts. -/
import Derived.Test.YtfdjbmamidmgfaaGreatMP
import Derived.Test.YtfdjbmamidmgfaaGreatPO
import Derived.Test.YtfdjbmamidmgfaaGreatPP
import Derived.Test.YtfdjbmamidmgfaaGreatPS
import Derived.Test.YtfdjbmamidmgfaaGreatPR
import Derived.Test.YtfdjbmamidmgfaaGreatPQ
import Derived.Test.YtfdjbmamidmgfaaGreatVE
import Derived.Test.YtfdjbmamidmgfaaGreatVF
import Derived.Test.YtfdjbmamidmgfaaGreatME
set_option linter.unusedVariables false
set_option linter.unusedSimpArgs false
namespace Go.Vw
open Go.Proofs Go.Py Go.Dt
attribute [local simp] zv V.fits fillOk fillV Z_eq
theorem pl_abs {k : Nat} {l : List Int} (h : PL k l) (i : Nat) : (cf l i).natAbs < 18446744073709551616 ^ k :=
 Nat.lt_of_lt_of_le (lt_zlen _) (Nat.pow_le_pow_right (by omega) (h i))
def gK (k L : Nat) : Nat := (k + 1) * (2 * L) + 1
theorem gK_le (k L : Nat) (hL : 1 ≤ L) : k ≤ gK k L := by
 have : (k + 1) * 1 ≤ (k + 1) * (2 * L) := Nat.mul_le_mul_left _ (by omega)
 unfold gK; omega
theorem subz_len {k L : Nat} {a b : List Int} (ha : PL k a) (hb : PL k b) (hL : L ≤ 2 ^ 20) {m n : Nat} (hm : m ≤ L) (hn : n ≤ L) (j t : Nat) {x : Int} (h : x.natAbs ≤ (subZ a b m n j t).natAbs) : zlen x ≤ gK k L := by
 refine zlen_lt (Nat.lt_of_le_of_lt h ?_)
 have h1 := subZ_abs (C := 18446744073709551616 ^ k) (fun i => Nat.le_of_lt (pl_abs ha i)) (fun i => Nat.le_of_lt (pl_abs hb i)) m n j t
 have h2 := dB_le (C := 18446744073709551616 ^ k) (B := 18446744073709551616) (n := n - j + (m - j)) (by omega)
 have e : 18446744073709551616 * 18446744073709551616 ^ k = 18446744073709551616 ^ (k + 1) := by rw [Nat.pow_succ, Nat.mul_comm]
 rw [e, ← Nat.pow_mul] at h2
 refine Nat.lt_of_le_of_lt (Nat.le_trans h1 h2) ?_
 unfold gK
 have h3 : (k + 1) * (n - j + (m - j)) ≤ (k + 1) * (2 * L) := Nat.mul_le_mul_left _ (by omega)
 exact Nat.pow_lt_pow_right (by omega) (by omega)
structure Gp (K L : Nat) (x y : List Int) : Prop where
 px : PL K x
 py : PL K y
 tx : tr x = x
 ty : tr y = y
 lx : x.length ≤ L
 ly : y.length ≤ L
theorem psD_short {x y : List Int} (hx : tr x = x) (hy : tr y ≠ []) (hc : x = [] ∨ coL x = 1) (hl : x.length < (tr y).length) : ppL (psD x y).2 = x := by
 have e : psD x y = psL y 0 (scL (ldL y ^ 0) x) := by
  unfold psD
  rw [show (tr x).length + 1 - (tr y).length = 0 by rw [hx]; omega]
 have e2 : (psL y 0 (scL (ldL y ^ 0) x)).2 = scL (ldL y ^ 0) x := rfl
 rw [e, e2, Int.pow_zero, ppL_eqp' (scL_one x)]
 rcases hc with h | h
 · rw [h]; rfl
 · rw [ppL, h, hx]
   conv => rhs; rw [← List.map_id x]
   exact List.map_congr_left fun z _ => by simp
theorem gp_ex {k L : Nat} {a b : List Int} (ha : PL k a) (hb : PL k b) (la : (tr a).length ≤ L) (lb : (tr b).length ≤ L) (hL0 : 1 ≤ L) (hL : L ≤ 2 ^ 20) :
 ∃ I : List Int → List Int → Prop, I (ppL a) (ppL b) ∧ (∀ x y, I x y → y ≠ [] → I y (ppL (psD x y).2)) ∧ ∀ x y, I x y → Gp (gK k L) L x y := by
 have pa := pl_pp ha
 have pb := pl_pp hb
 have ta := tr_ppL a
 have tb := tr_ppL b
 have lpa := ppL_len' a
 have lpb := ppL_len' b
 have hkK := gK_le k L hL0
 have main : ∀ x0 y0 : List Int, PL k x0 → PL k y0 → tr x0 = x0 → tr y0 = y0 → x0.length ≤ L → y0.length ≤ x0.length → ∀ x y, Rch x0 y0 x y → Gp (gK k L) L x y := by
  intro x0 y0 px py tx ty lx lxy x y h
  obtain ⟨h1, h2, h3, h4, _, h6, h7⟩ := rch_lim tx ty lxy h
  refine ⟨fun t => ?_, fun t => ?_, h1, h2, by omega, by omega⟩
  · rcases h6 t with h | h | ⟨j, h⟩
    · exact Nat.le_trans (zlen_le h) (Nat.le_trans (px t) hkK)
    · exact Nat.le_trans (zlen_le h) (Nat.le_trans (py t) hkK)
    · exact subz_len px py hL (by omega) (by omega) j t h
  · rcases h7 t with h | ⟨j, h⟩
    · exact Nat.le_trans (zlen_le h) (Nat.le_trans (py t) hkK)
    · exact subz_len px py hL (by omega) (by omega) j t h
 by_cases hxy : (ppL b).length ≤ (ppL a).length
 · exact ⟨Rch (ppL a) (ppL b), .first, fun x y h hy => .step x y h (by rw [(rch_lim ta tb hxy h).2.1]; exact hy), main _ _ pa pb ta tb (by omega) hxy⟩
 · refine ⟨fun x y => (x = ppL a ∧ y = ppL b) ∨ Rch (ppL b) (ppL a) x y, .inl ⟨rfl, rfl⟩, ?_, ?_⟩
   · rintro x y (⟨rfl, rfl⟩ | h) hy
     · right
       have hc : ppL a = [] ∨ coL (ppL a) = 1 := by
        by_cases h0 : tr a = []
        · left; exact List.eq_nil_of_length_eq_zero (by rw [lpa, h0]; rfl)
        · right; exact coL_ppL h0
       rw [psD_short ta (by rw [tb]; exact hy) hc (by rw [tb]; omega)]
       exact .first
     · exact .inr (.step x y h (by rw [(rch_lim tb ta (by omega) h).2.1]; exact hy))
   · rintro x y (⟨rfl, rfl⟩ | h)
     · exact ⟨pa.mono hkK, pb.mono hkK, ta, tb, by omega, by omega⟩
     · exact main _ _ pb pa tb ta (by omega) (by omega) x y h
theorem pl_div {k : Nat} {p d q : List Int} (hp : PL k p) (h : Eqp p (mulL d q)) (h0 : tr p ≠ []) (hl : (tr p).length ≤ 25) : PL (k + 1) q := by
 have hd0 : tr d ≠ [] := fun e => h0 (by rw [tr_of_eqp h]; exact tr_mulL_nil.2 (.inl e))
 have hq0 : tr q ≠ [] := fun e => h0 (by rw [tr_of_eqp h]; exact tr_mulL_nil.2 (.inr e))
 have ll := tr_mulL_len hd0 hq0
 rw [← tr_of_eqp h] at ll
 have l1 := List.length_pos_iff.2 hd0
 have l2 := List.length_pos_iff.2 hq0
 intro j
 have hb := fac_bound (a := tr d) (b := tr q) (m := (tr d).length - 1) (n := (tr q).length - 1) (by omega) (by omega) (by omega) (tr_last d hd0) j
 rw [cf_tr q j] at hb
 have hC : ∀ i, cf (mulL (tr d) (tr q)) i * cf (mulL (tr d) (tr q)) i ≤ ((18446744073709551616 ^ k * 18446744073709551616 ^ k : Nat) : Int) := fun i => by
  rw [eqp_mulL_right (cf_tr q) (tr d) i, eqp_mulL_left q (cf_tr d) i, ← h i, ← Int.natAbs_mul_self]
  have := pl_abs hp i
  exact_mod_cast Nat.mul_le_mul (Nat.le_of_lt this) (Nat.le_of_lt this)
 have hS : ∀ N, su (fun i => cf (mulL (tr d) (tr q)) i * cf (mulL (tr d) (tr q)) i) N ≤ (N : Int) * ((18446744073709551616 ^ k * 18446744073709551616 ^ k : Nat) : Int) := by
  intro N
  induction N with
  | zero => simp [su]
  | succ N ih =>
   have := hC N
   rw [su]
   have e : ((N + 1 : Nat) : Int) = (N : Int) + 1 := by omega
   rw [e, Int.add_mul, Int.one_mul]
   exact Int.add_le_add ih this
 have h1 := hS ((tr d).length - 1 + ((tr q).length - 1) + 1)
 obtain ⟨N, hN⟩ : ∃ N, N = (tr d).length - 1 + ((tr q).length - 1) := ⟨_, rfl⟩
 rw [← hN] at hb h1
 have hN24 : N ≤ 24 := by omega
 obtain ⟨X, hX⟩ : ∃ X, X = 18446744073709551616 ^ k := ⟨_, rfl⟩
 rw [← hX] at h1
 have h2 : (4 : Int) ^ N ≤ 4 ^ 24 := by
  have := Nat.pow_le_pow_right (show 0 < 4 by omega) hN24
  exact_mod_cast this
 have hXX : (0 : Int) ≤ ((X * X : Nat) : Int) := Int.natCast_nonneg _
 have h3 : cf q j * cf q j ≤ 4 ^ 24 * (25 * ((X * X : Nat) : Int)) := by
  refine Int.le_trans hb (Int.le_trans (Int.mul_le_mul_of_nonneg_left h1 (Int.le_of_lt (Int.pow_pos (by decide)))) ?_)
  refine Int.mul_le_mul h2 (Int.mul_le_mul_of_nonneg_right (by omega) hXX) (Int.mul_nonneg (by omega) hXX) (by decide)
 have h4 : (cf q j).natAbs * (cf q j).natAbs ≤ 4 ^ 24 * (25 * (X * X)) := by
  rw [← Int.natAbs_mul_self] at h3
  exact_mod_cast h3
 refine zlen_lt ?_
 rw [Nat.pow_succ, ← hX]
 rcases Nat.lt_or_ge (cf q j).natAbs (X * 18446744073709551616) with h5 | h5
 · exact h5
 · exfalso
   have h6 := Nat.mul_le_mul h5 h5
   have hX0 : 0 < X := by rw [hX]; exact Nat.pow_pos (by omega)
   have hX2 : 0 < X * X := Nat.mul_pos hX0 hX0
   have e : X * 18446744073709551616 * (X * 18446744073709551616) = 18446744073709551616 * 18446744073709551616 * (X * X) := by
    rw [Nat.mul_mul_mul_comm, Nat.mul_comm]
   rw [e] at h6
   omega
def GeS (I : List Int → List Int → Prop) (F : List Int) (c : Int) (S : St) : Prop := ∃ (x y : List Int), I x y ∧ gdL x y = F ∧ S.σ 5 = .ptr 5 1 0 ∧ S.h 5 = ⟨1, some (.box 28 [.b (zn c), .sl none (uL (zl c))])⟩ ∧ S.σ 6 = .p (.sl (some 2) (PZ x)) ∧ S.σ 7 = .p (.sl (some 2) (PZ y))
set_option maxHeartbeats 1000000 in
theorem ggcd2 {k0 L : Nat} {vs ws : List V} {a b : List Int} (hv : IsP k0 vs a) (hw : IsP k0 ws b) (hn : vs.length ≤ 2 ^ 10) (hn2 : ws.length ≤ 2 ^ 10) (la : (tr a).length ≤ L) (lb : (tr b).length ≤ L) (hL0 : 1 ≤ L) (hL : L ≤ 2 ^ 6) (hk0 : k0 ≤ 2 ^ 6) :
 Spec Tryz.prog f_zgcd_Gcd [.sl (some 2) vs, .sl (some 2) ws] (· = [.own 28 (some 2) (PZ (tr (gdZ a b)))]) := by
 have c1 := pcontent hv (by omega) (by omega)
 have c2 := pcontent hw (by omega) (by omega)
 have z1 := coL_len hv.pl
 have z2 := coL_len hw.pl
 have g := zgcd (isZ_of z1) (isZ_of z2) (by omega)
 have gl := gcd_len z1 z2
 have p1 := own_plain (pprim hv (by omega) (by omega))
 have p2 := own_plain (pprim hw (by omega) (by omega))
 obtain ⟨I, i0, istep, igp⟩ := gp_ex hv.pl hw.pl la lb hL0 (by omega)
 have hK : gK k0 L ≤ 2 ^ 14 := by
  have : (k0 + 1) * (2 * L) ≤ (2 ^ 6 + 1) * (2 * 2 ^ 6) := Nat.mul_le_mul (by omega) (by omega)
  unfold gK; omega
 obtain ⟨K, hKe⟩ : ∃ K, K = gK k0 L := ⟨_, rfl⟩
 rw [← hKe] at hK igp
 rw [gdZ_co]
 obtain ⟨c, hc⟩ : ∃ c, c = (Int.gcd (coL a) (coL b) : Int) := ⟨_, rfl⟩
 rw [← hc] at g gl ⊢
 obtain ⟨ca, hca⟩ : ∃ c, c = coL a := ⟨_, rfl⟩
 obtain ⟨cb, hcb⟩ : ∃ c, c = coL b := ⟨_, rfl⟩
 rw [← hca] at c1 g
 rw [← hcb] at c2 g
 obtain ⟨x0, hx0⟩ : ∃ x, x = ppL a := ⟨_, rfl⟩
 obtain ⟨y0, hy0⟩ : ∃ x, x = ppL b := ⟨_, rfl⟩
 obtain ⟨F, hF⟩ : ∃ F, F = gdL (ppL a) (ppL b) := ⟨_, rfl⟩
 rw [← hF]
 rw [← hx0] at p1 i0 hF
 rw [← hy0] at p2 i0 hF
 refine spec_at Tryz.func25 ok_zgcd_Gcd [true] rfl (by simp) ?_
 unfold sc_zgcd_Gcd
 refine Wr ?_; simp
 refine Wr ?_; simp
 refine callK c1 ?_; simp
 refine callK c2 ?_; simp
 refine callK g ?_; simp
 refine Wr ?_; simp
 refine callK p1 ?_; simp
 refine callK p2 ?_; simp
 refine WS_seq (WS_block ?_)
 refine WS_loop (GeS I F c) (slL 7) ⟨x0, y0, i0, hF.symm, by simp, by simp, by simp, by simp⟩ ?_
 clear p1 p2 g c1 c2 i0 hF hx0 hy0 la lb
 rintro S ⟨x, y, hi, hg, s5, h5, s6, s7⟩
 obtain ⟨q1, q2, t1, t2, lx, ly'⟩ := igp x y hi
 have d7 := slL_eq s7
 rw [PZ_length] at d7
 have hyl := PZ_length y
 by_cases hy0 : y = []
 · subst hy0
   rw [gdL_nil rfl] at hg
   subst hg
   have sc := pscale (isP_PZ q1) (isZ_of gl) (by omega) (by omega) (by rw [PZ_length]; omega)
   obtain ⟨X, hX⟩ : ∃ X, X = PZ x := ⟨_, rfl⟩
   rw [← hX] at sc s6
   obtain ⟨Y, hY⟩ : ∃ X, X = PZ [] := ⟨_, rfl⟩
   rw [← hY] at s7 hyl
   refine Ws ?_; simp [s5, h5, s6, s7, hyl]
   refine WS_cF (by simp [s5, h5, s6, s7, hyl]) ?_
   refine WS_exit ?_; simp [s5, h5, s6, s7, hyl]
   refine Wr ?_; simp [s5, h5, s6, s7, hyl]
   refine callK sc ?_; simp [s5, h5, s6, s7, hyl]
   refine WS_ret ?_; simp [s5, h5, s6, s7, hyl]
 · have ly := List.length_pos_iff.2 hy0
   have hyI : (0 : Int) < (y.length : Int) := by omega
   have hy1 : tr y ≠ [] := by rw [t2]; exact hy0
   have ps := gpseudo (isP_PZ q1) (isP_PZ q2) (by rw [PZ_length]; omega) (by rw [PZ_length]; omega) (fun n hn => by
    rw [t1, t2] at hn
    have h1 : n * K ≤ 65 * 2 ^ 14 := Nat.mul_le_mul (by omega) hK
    have h2 : n * (K + 1) ≤ 65 * (2 ^ 14 + 1) := Nat.mul_le_mul (by omega) (by omega)
    omega)
   rw [pseR, if_neg hy1] at ps
   obtain ⟨m1, m2, m3, m4⟩ := psD_lim q1 t1 q2 t2 hy0 rfl
   have hi2 := istep x y hi hy0
   have hKb : K + (x.length + 1 - y.length) * (K + 1) ≤ 2 ^ 22 := by
    have h2 : (x.length + 1 - y.length) * (K + 1) ≤ 65 * (2 ^ 14 + 1) := Nat.mul_le_mul (by omega) (by omega)
    omega
   have pr := own_plain (pprim (isP_PZ m1) (by omega) (by rw [PZ_length]; omega))
   rw [ppL_eqp (cf_tr (psD x y).2)] at pr
   have hg2 : gdL y (ppL (psD x y).2) = F := by rw [← hg, gdL_step hy1]
   have m6 : (ppL (psD x y).2).length < y.length := by rw [ppL_len]; exact m4
   obtain ⟨y', hy'⟩ : ∃ y', y' = ppL (psD x y).2 := ⟨_, rfl⟩
   rw [← hy'] at hi2 pr hg2 m6
   obtain ⟨R, hR⟩ : ∃ R, R = PZ (tr (psD x y).2) := ⟨_, rfl⟩
   rw [← hR] at ps pr
   obtain ⟨Q, hQ⟩ : ∃ R, R = PZ (tr (psD x y).1) := ⟨_, rfl⟩
   rw [← hQ] at ps
   obtain ⟨X, hX⟩ : ∃ X, X = PZ x := ⟨_, rfl⟩
   rw [← hX] at ps s6
   obtain ⟨Y, hY⟩ : ∃ X, X = PZ y := ⟨_, rfl⟩
   rw [← hY] at ps s7 hyl
   refine Ws ?_; simp [s5, h5, s6, s7, hyl, ly, hyI]
   refine WS_cT (by simp [s5, h5, s6, s7, hyl, ly, hyI]) ?_
   refine WS_skip ?_; simp [s5, h5, s6, s7, hyl, ly, hyI]
   refine WS_block (Wr ?_); simp [s5, h5, s6, s7, hyl, ly, hyI]
   refine callK ps ?_; simp [s5, h5, s6, s7, hyl, ly, hyI]
   refine WS_reg [] ?_; simp [s5, h5, s6, s7, hyl, ly, hyI]
   refine callK pr ?_; simp [s5, h5, s6, s7, hyl, ly, hyI]
   refine ⟨⟨y, y', hi2, hg2, by simp [s5], by simp [h5], by simp [hY], by simp⟩, ?_⟩
   rw [d7, slL_eq (i := 7) (sz := some 2) (xs := PZ y') (by simp), PZ_length]
   exact m6
def wrE (a : List Int) : Int := if (tr a).length = 0 then 8 else if 65 < (tr a).length then 6 else 0
theorem pl_mono' {k : Nat} {a b : List Int} (h : PL k a) (e : Eqp a b) : PL k b := fun i => by rw [← e i]; exact h i
theorem zwrong {k : Nat} {vs : List V} {a : List Int} (hv : IsP k vs a) (hk : k ≤ 2 ^ 40) (hn : vs.length ≤ 2 ^ 40) : Spec Tryz.prog f_zsqf_wrong [.sl (some 2) vs] (· = [.pure (.i .i64 (wrE a))]) := by
 have n1 := own_plain (pnorm hv hk hn)
 have xl := PZ_length (tr a)
 have hl : (tr a).length ≤ 2 ^ 40 := by have := tr_len a; have := hv.len; omega
 obtain ⟨X, hX⟩ : ∃ X, X = PZ (tr a) := ⟨_, rfl⟩
 rw [← hX] at n1 xl
 rw [wrE]
 obtain ⟨n, hn⟩ : ∃ n, n = (tr a).length := ⟨_, rfl⟩
 rw [← hn] at xl hl ⊢
 by_cases h0 : n = 0
 · have hI : ((n : Int) == 0) = true := by simp; omega
   rw [if_pos h0]
   refine spec_at Tryz.func70 ok_zsqf_wrong [] rfl (by simp) ?_
   unfold sc_zsqf_wrong
   refine Wr ?_; simp [xl, hI]
   refine Ws ?_; simp [xl, hI]
   refine callK n1 ?_; simp [xl, hI]
   refine WS_block (Wr ?_); simp [xl, hI]
   refine WS_cT (by simp [xl, hI]) ?_
   refine Wr ?_; simp [xl, hI]
   refine WS_ret ?_; simp [xl, hI]
 · have hI : ((n : Int) == 0) = false := by simp; omega
   rw [if_neg h0]
   by_cases h6 : 65 < n
   · have h6I : (65 : Int) < (n : Int) := by omega
     rw [if_pos h6]
     refine spec_at Tryz.func70 ok_zsqf_wrong [] rfl (by simp) ?_
     unfold sc_zsqf_wrong
     refine Wr ?_; simp [xl, hI, h6I, h6, h0]
     refine Ws ?_; simp [xl, hI, h6I, h6, h0]
     refine callK n1 ?_; simp [xl, hI, h6I, h6, h0]
     refine WS_block (Wr ?_); simp [xl, hI, h6I, h6, h0]
     refine WS_cF (by simp [xl, hI, h6I, h6, h0]) ?_
     refine Wr ?_; simp [xl, hI, h6I, h6, h0]
     refine WS_cT (by simp [xl, hI, h6I, h6, h0]) ?_
     refine Wr ?_; simp [xl, hI, h6I, h6, h0]
     refine WS_ret ?_; simp [xl, hI, h6I, h6, h0]
   · have h6I : ¬ (65 : Int) < (n : Int) := by omega
     rw [if_neg h6]
     refine spec_at Tryz.func70 ok_zsqf_wrong [] rfl (by simp) ?_
     unfold sc_zsqf_wrong
     refine Wr ?_; simp [xl, hI, h6I, h6, h0]
     refine Ws ?_; simp [xl, hI, h6I, h6, h0]
     refine callK n1 ?_; simp [xl, hI, h6I, h6, h0]
     refine WS_block (Wr ?_); simp [xl, hI, h6I, h6, h0]
     refine WS_cF (by simp [xl, hI, h6I, h6, h0]) ?_
     refine Wr ?_; simp [xl, hI, h6I, h6, h0]
     refine WS_cF (by simp [xl, hI, h6I, h6, h0]) ?_
     refine WS_skip ?_; simp [xl, hI, h6I, h6, h0]
     refine Wr ?_; simp [xl, hI, h6I, h6, h0]
     refine WS_ret ?_; simp [xl, hI, h6I, h6, h0]
theorem zby {k : Nat} {vs ws : List V} {a b q : List Int} (hv : IsP k vs a) (hw : IsP k ws b) (hk : k ≤ 2 ^ 10) (hn : vs.length ≤ 2 ^ 10) (hn2 : ws.length ≤ 2 ^ 10) (hb : tr b ≠ []) (h : Eqp a (mulL q b)) :
 Spec Tryz.prog f_zsqf_by [.sl (some 2) vs, .sl (some 2) ws] (· = [.pure (.sl (some 2) (PZ (tr q)))]) := by
 have h1 : vs.length * (k + 1) ≤ 2 ^ 10 * (2 ^ 10 + 1) := Nat.mul_le_mul hn (by omega)
 have dv := pdivq hv hw (by omega) (by omega) (by omega) (by omega)
 rw [pdivQ_some hb h] at dv
 obtain ⟨W, hW⟩ : ∃ W, W = PZ (tr q) := ⟨_, rfl⟩
 rw [← hW] at dv ⊢
 refine spec_at Tryz.func90 ok_zsqf_by [] rfl (by simp) ?_
 unfold sc_zsqf_by
 refine Wr ?_; simp
 refine Wr ?_; simp
 refine callK dv ?_; simp
 refine Wr ?_; simp
 refine WS_ret ?_; simp
theorem zparts (vs : List V) : Spec Tryz.prog f_zsqf_parts [.sl (some 2) vs] (· = [.pure (.clo f_zsqf_parts_1 [.ref none (.sl (some 2) vs)])]) := by
 refine spec_at Tryz.func71 ok_zsqf_parts [] rfl (by simp) ?_
 unfold sc_zsqf_parts
 refine Wr ?_; simp
 refine WS_frz 1 1 none ?_
 simp [frzQ]
 refine Wr ?_; simp
 refine WS_ret ?_; simp
theorem gdZ_congr {a a' b b' : List Int} (ha : Eqp a a') (hb : Eqp b b') : gdZ a b = gdZ a' b' := by rw [gdZ, gdZ, gcL_eqp ha, gcL_eqp hb, ppL_eqp' ha, ppL_eqp' hb]
theorem pl_zero {k : Nat} {l : List Int} (h : tr l = []) : PL k l := fun i => by rw [(tr_nil_iff l).1 h i]; exact Nat.zero_le _
theorem div_lim {k : Nat} {p d q : List Int} (hp : PL k p) (h : ∀ x, evL x p = evL x d * evL x q) (h0 : tr p ≠ []) (hl : (tr p).length ≤ 25) : PL (k + 1) q ∧ (tr q).length ≤ 25 ∧ tr q ≠ [] := by
 have e : Eqp p (mulL d q) := eqp_ev fun x => by rw [h, evL_mulL]
 refine ⟨pl_div hp e h0 hl, ?_⟩
 have := dv_len (d := q) (a := p) ⟨d, e⟩ h0
 exact ⟨by omega, this.1⟩
structure Dc (k : Nat) (p : List Int) (qs : List (List Int)) : Prop where
 pl : PL k p
 tp : tr p = p
 lp : p.length ≤ 25
 ok : OkL qs
 ev : ∀ x, evL x p = evL x (PL' 1 qs)
theorem Dc.co {k : Nat} {p : List Int} {qs : List (List Int)} (h : Dc k p qs) : coL p = 1 := by rw [co_ev h.ev]; exact co_PL 1 h.ok
theorem Dc.ne {k : Nat} {p : List Int} {qs : List (List Int)} (h : Dc k p qs) : tr p ≠ [] := tr_ne_of_co h.co
theorem Dc.E {k : Nat} {p : List Int} {qs : List (List Int)} (h : Dc k p qs) : PL (k + 1) (EL 0 qs) ∧ (tr (EL 0 qs)).length ≤ 25 ∧ tr (EL 0 qs) ≠ [] :=
 div_lim (d := BL qs) h.pl (fun x => by rw [h.ev, ev_split x qs 0, Int.mul_comm]) h.ne (by rw [h.tp]; exact h.lp)
theorem Dc.B {k : Nat} {p : List Int} {qs : List (List Int)} (h : Dc k p qs) : PL (k + 1) (BL qs) ∧ (tr (BL qs)).length ≤ 25 ∧ tr (BL qs) ≠ [] :=
 div_lim (d := EL 0 qs) h.pl (fun x => by rw [h.ev, ev_split x qs 0]) h.ne (by rw [h.tp]; exact h.lp)
theorem de_short {l : List Int} : (tr (deL l)).length ≤ (tr l).length := by
 have : Eqp (deL l) (deL (tr l)) := deL_eqp (cf_tr l).symm
 rw [tr_of_eqp this]
 exact Nat.le_trans (tr_len _) (deL_len _)
theorem Dc.C {k : Nat} {p : List Int} {qs : List (List Int)} (h : Dc k p qs) : PL (k + 2) (CL 1 qs) ∧ (tr (CL 1 qs)).length ≤ 25 := by
 have hd : PL (k + 1) (deL p) := pl_de h.pl (by have := h.lp; omega)
 have he : ∀ x, evL x (deL p) = evL x (EL 0 qs) * evL x (CL 1 qs) := fun x => by rw [ev_de_congr h.ev, ev_split_de x qs 0]; rfl
 have hl := de_short (l := p)
 rw [h.tp] at hl
 by_cases h0 : tr (deL p) = []
 · have hz : tr (CL 1 qs) = [] := by
    have : Eqp (deL p) (mulL (EL 0 qs) (CL 1 qs)) := eqp_ev fun x => by rw [he, evL_mulL]
    rcases tr_mulL_nil.1 ((tr_of_eqp this).symm.trans h0) with h1 | h1
    · exact absurd h1 h.E.2.2
    · exact h1
   exact ⟨pl_zero hz, by rw [hz]; simp⟩
 · have := div_lim hd he h0 (by have := h.lp; omega)
   exact ⟨this.1, this.2.1⟩
theorem Dc.tail {k : Nat} {p q : List Int} {qs : List (List Int)} (h : Dc k p (q :: qs)) : ∃ r d, Dc (k + 1) r qs ∧ ∀ x, evL x p = evL x d * evL x r := by
 have h1 : ∀ x, evL x p = (evL x q * evL x (BL qs)) * evL x (PL' 1 qs) := fun x => by
  rw [h.ev]
  have : ∀ (qs : List (List Int)) (w : Nat), evL x (PL' (w + 1) qs) = evL x (PL' w qs) * evL x (BL qs) := by
   intro qs
   induction qs with
   | nil => intro w; simp only [PL', BL, ev_one]; rfl
   | cons q qs ih => intro w; simp only [PL', BL, evL_mulL, ev_pow, ih, Int.pow_succ]; grind
  simp only [PL', evL_mulL, ev_pow, this qs 1, Int.pow_succ, Int.pow_zero]
  grind
 have h2 := div_lim (d := mulL q (BL qs)) (q := PL' 1 qs) h.pl (fun x => by rw [h1, evL_mulL]) h.ne (by rw [h.tp]; exact h.lp)
 exact ⟨tr (PL' 1 qs), mulL q (BL qs), ⟨pl_tr h2.1, tr_tr _, h2.2.1, h.ok.2.2.2, fun x => evL_eqp x (cf_tr _)⟩, fun x => by rw [h1, evL_mulL, evL_eqp x (cf_tr _)]⟩
theorem dc_at {k : Nat} {p : List Int} : ∀ (pre qs : List (List Int)), Dc k p (pre ++ qs) → ∃ r, Dc (k + 1) r qs := by
 intro pre
 have key : ∀ (pre qs : List (List Int)) (r d : List Int), (∀ x, evL x p = evL x d * evL x r) → PL k p → tr p ≠ [] → p.length ≤ 25 → tr p = p → Dc (k + 1) r (pre ++ qs) → ∃ r, Dc (k + 1) r qs := by
  intro pre
  induction pre with
  | nil => intro qs r d _ _ _ _ _ h; exact ⟨r, h⟩
  | cons q pre ih =>
   intro qs r d he hp h0 hl tp h
   obtain ⟨r', d', h', e'⟩ := h.tail
   have e2 : ∀ x, evL x p = evL x (mulL d d') * evL x r' := fun x => by rw [he, e', evL_mulL]; grind
   have hd := div_lim hp e2 h0 (by rw [tp]; exact hl)
   exact ih qs r' (mulL d d') e2 hp h0 hl tp ⟨hd.1, h'.tp, by have := hd.2.1; rw [h'.tp] at this; exact this, h'.ok, h'.ev⟩
 intro qs h
 exact key pre qs p [1] (fun x => by rw [ev_one, Int.one_mul]) h.pl h.ne h.lp h.tp ⟨h.pl.mono (by omega), h.tp, h.lp, h.ok, h.ev⟩
theorem dc_ex {k : Nat} {a : List Int} (ha : PL k a) (h0 : tr a ≠ []) (hl : (tr a).length ≤ 25) : ∃ qs, Dc k (ppL a) qs := by
 obtain ⟨qs, o1, o2⟩ := parts_ex _ (ppL a) (Nat.le_refl _) (coL_ppL h0)
 exact ⟨qs, pl_pp ha, tr_ppL a, by rw [ppL_len']; exact hl, o1, o2⟩
theorem zgcd_de {k : Nat} {p : List Int} {qs : List (List Int)} (h : Dc k p qs) (hk : k ≤ 2 ^ 5) : Spec Tryz.prog f_zgcd_Gcd [.sl (some 2) (PZ p), .sl (some 2) (PZ (tr (deL p)))] (· = [.pure (.sl (some 2) (PZ (tr (EL 0 qs))))]) := by
 have hd : PL (k + 1) (tr (deL p)) := pl_tr (pl_de h.pl (by have := h.lp; omega))
 have hl := de_short (l := p)
 rw [h.tp] at hl
 have lp := h.lp
 have := own_plain (ggcd2 (L := 25) (isP_PZ (h.pl.mono (show k ≤ k + 1 by omega))) (isP_PZ hd) (by rw [PZ_length]; omega) (by rw [PZ_length]; omega) (by rw [h.tp]; exact lp) (by rw [tr_tr]; omega) (by omega) (by omega) (by omega))
 rw [gdZ_congr Eqp.rfl' (cf_tr (deL p)), tr_of_eqp (gd_first h.ok h.ev)] at this
 exact this
theorem zis {k : Nat} {vs : List V} {a : List Int} {qs : List (List Int)} (hv : IsP k vs a) (hk : k ≤ 2 ^ 4) (hn : vs.length ≤ 2 ^ 10) (hl : (tr a).length ≤ 25) (h0 : tr a ≠ []) (h : Dc k (ppL a) qs) :
 Spec Tryz.prog f_zsqf_Is [.sl (some 2) vs] (· = [.pure (.b (decide ((tr (EL 0 qs)).length = 1))), .pure (.i .i64 0)]) := by
 have w := zwrong hv (by omega) (by omega)
 rw [wrE, if_neg (fun e => h0 (List.length_eq_zero_iff.1 e)), if_neg (by omega)] at w
 have p1 := own_plain (pprim hv (by omega) (by omega))
 have d1 := own_plain (pderiv (isP_PZ h.pl) (by omega) (by rw [PZ_length]; have := h.lp; omega))
 have g1 := zgcd_de h (by omega)
 have xl := PZ_length (tr (EL 0 qs))
 obtain ⟨p, hp⟩ : ∃ p, p = ppL a := ⟨_, rfl⟩
 rw [← hp] at p1 d1 g1
 obtain ⟨X, hX⟩ : ∃ X, X = PZ p := ⟨_, rfl⟩
 rw [← hX] at p1 d1 g1
 obtain ⟨D, hD⟩ : ∃ X, X = PZ (tr (deL p)) := ⟨_, rfl⟩
 rw [← hD] at d1 g1
 obtain ⟨E, hE⟩ : ∃ X, X = PZ (tr (EL 0 qs)) := ⟨_, rfl⟩
 rw [← hE] at g1 xl
 obtain ⟨n, hn⟩ : ∃ n, n = (tr (EL 0 qs)).length := ⟨_, rfl⟩
 rw [← hn] at xl ⊢
 have hI : ((n : Int) == 1) = decide (n = 1) := by
  by_cases e : n = 1
  · simp [e]
  · simp [e]; omega
 refine spec_at Tryz.func22 ok_zsqf_Is [] rfl (by simp) ?_
 unfold sc_zsqf_Is
 refine Wr ?_; simp [xl, hI]
 refine Ws ?_; simp [xl, hI]
 refine callK w ?_; simp [xl, hI]
 refine Wr ?_; simp [xl, hI]
 refine WS_cF (by simp [xl, hI]) ?_
 refine WS_skip ?_; simp [xl, hI]
 refine Wr ?_; simp [xl, hI]
 refine callK p1 ?_; simp [xl, hI]
 refine Wr ?_; simp [xl, hI]
 refine callK d1 ?_; simp [xl, hI]
 refine callK g1 ?_; simp [xl, hI]
 refine WS_ret ?_; simp [xl, hI]
theorem zradical {k : Nat} {vs : List V} {a : List Int} {qs : List (List Int)} (hv : IsP k vs a) (hk : k ≤ 2 ^ 4) (hn : vs.length ≤ 2 ^ 10) (hl : (tr a).length ≤ 25) (h0 : tr a ≠ []) (h : Dc k (ppL a) qs) :
 Spec Tryz.prog f_zsqf_Radical [.sl (some 2) vs] (· = [.pure (.sl (some 2) (PZ (tr (BL qs)))), .pure (.i .i64 0)]) := by
 have w := zwrong hv (by omega) (by omega)
 rw [wrE, if_neg (fun e => h0 (List.length_eq_zero_iff.1 e)), if_neg (by omega)] at w
 have p1 := own_plain (pprim hv (by omega) (by omega))
 have lp := h.lp
 have d1 := own_plain (pderiv (isP_PZ h.pl) (by omega) (by rw [PZ_length]; omega))
 have g1 := zgcd_de h (by omega)
 obtain ⟨e1, e2, e3⟩ := h.E
 have b1 := zby (q := BL qs) (isP_PZ (h.pl.mono (show k ≤ k + 1 by omega))) (isP_PZ (pl_tr e1)) (by omega) (by rw [PZ_length]; omega) (by rw [PZ_length]; omega) (by rw [tr_tr]; exact e3) (eqp_ev fun x => by rw [evL_mulL, evL_eqp x (cf_tr _), h.ev, ev_split x qs 0, Int.mul_comm])
 obtain ⟨p, hp⟩ : ∃ p, p = ppL a := ⟨_, rfl⟩
 rw [← hp] at p1 d1 g1 b1
 obtain ⟨X, hX⟩ : ∃ X, X = PZ p := ⟨_, rfl⟩
 rw [← hX] at p1 d1 g1 b1
 obtain ⟨D, hD⟩ : ∃ X, X = PZ (tr (deL p)) := ⟨_, rfl⟩
 rw [← hD] at d1 g1
 obtain ⟨E, hE⟩ : ∃ X, X = PZ (tr (EL 0 qs)) := ⟨_, rfl⟩
 rw [← hE] at g1 b1
 obtain ⟨R, hR⟩ : ∃ X, X = PZ (tr (BL qs)) := ⟨_, rfl⟩
 rw [← hR] at b1 ⊢
 refine spec_at Tryz.func36 ok_zsqf_Radical [] rfl (by simp) ?_
 unfold sc_zsqf_Radical
 refine Wr ?_; simp
 refine Ws ?_; simp
 refine callK w ?_; simp
 refine Wr ?_; simp
 refine WS_cF (by simp) ?_
 refine WS_skip ?_; simp
 refine Wr ?_; simp
 refine callK p1 ?_; simp
 refine Wr ?_; simp
 refine callK d1 ?_; simp
 refine callK g1 ?_; simp
 refine callK b1 ?_; simp
 refine WS_ret ?_; simp
theorem zradical_wrong {k : Nat} {vs : List V} {a : List Int} (hv : IsP k vs a) (hk : k ≤ 2 ^ 40) (hn : vs.length ≤ 2 ^ 40) (h : wrE a ≠ 0) : Spec Tryz.prog f_zsqf_Radical [.sl (some 2) vs] (· = [.pure (.sl (some 2) []), .pure (.i .i64 (wrE a))]) := by
 have w := zwrong hv hk hn
 obtain ⟨e, he⟩ : ∃ e, e = wrE a := ⟨_, rfl⟩
 rw [← he] at w h ⊢
 have hI : (e != 0) = true := by simpa using h
 refine spec_at Tryz.func36 ok_zsqf_Radical [] rfl (by simp) ?_
 unfold sc_zsqf_Radical
 refine Wr ?_; simp [hI, h]
 refine Ws ?_; simp [hI, h]
 refine callK w ?_; simp [hI, h]
 refine Wr ?_; simp [hI, h]
 refine WS_cT (by simp [hI, h]) ?_
 refine Wr ?_; simp [hI, h]
 refine WS_ret ?_; simp [hI, h]
def partV : Nat → List (List Int) → List V
 | _, [] => []
 | n, q :: qs => if 2 ≤ (tr q).length then .agg [.sl (some 2) (PZ (tr q)), .i .i64 (n : Int)] :: partV (n + 1) qs else partV (n + 1) qs
theorem partV_append : ∀ (a b : List (List Int)) (n : Nat), partV n (a ++ b) = partV n a ++ partV (n + a.length) b
 | [], b, n => by simp [partV]
 | q :: a, b, n => by
  rw [List.cons_append, partV, partV, partV_append a b (n + 1), List.length_cons, show n + 1 + a.length = n + (a.length + 1) by omega]
  split <;> simp
theorem partV_len : ∀ (qs : List (List Int)) (n : Nat), (partV n qs).length ≤ qs.length
 | [], n => by simp [partV]
 | q :: qs, n => by
  rw [partV]
  have := partV_len qs (n + 1)
  split <;> simp <;> omega
theorem partV_end : ∀ (qs : List (List Int)) (n : Nat), OkL qs → (tr (BL qs)).length ≤ 1 → partV n qs = []
 | [], n, _, _ => rfl
 | q :: qs, n, h, hl => by
  have hq := tr_ne_of_co h.1
  have hB := tr_ne_of_co (co_BL h.2.2.2)
  have hll := tr_mulL_len hq hB
  have e : tr (BL (q :: qs)) = tr (mulL q (BL qs)) := rfl
  rw [e, hll] at hl
  have := List.length_pos_iff.2 hq
  have := List.length_pos_iff.2 hB
  rw [partV, if_neg (by omega)]
  exact partV_end qs (n + 1) h.2.2.2 (by omega)
theorem BL_ne {qs : List (List Int)} (h : OkL qs) (hl : 2 ≤ (tr (BL qs)).length) : ∃ q rs, qs = q :: rs := by
 cases qs with
 | nil => simp [BL, tr] at hl
 | cons q rs => exact ⟨q, rs, rfl⟩
theorem yun_c {q : List Int} {rs : List (List Int)} : tr (addL (tr (CL 1 (q :: rs))) (scL (-1) (tr (deL (tr (BL (q :: rs))))))) = tr (CL 0 (q :: rs)) := by
 refine tr_of_eqp (eqp_ev fun x => ?_)
 have h1 := ev_less x (q :: rs) 0
 rw [evL_addL, evL_scL, evL_eqp x (cf_tr _), evL_eqp x (cf_tr _), evL_eqp x (deL_eqp (cf_tr (BL (q :: rs)))), ← h1, Int.zero_add]
 omega
theorem yun_g {q : List Int} {rs : List (List Int)} (h : OkL (q :: rs)) : tr (gdZ (tr (BL (q :: rs))) (tr (CL 0 (q :: rs)))) = tr q := by
 rw [gdZ_congr (cf_tr _) (cf_tr _), tr_of_eqp (gd_next h)]
theorem yun_b {q : List Int} {rs : List (List Int)} : Eqp (tr (BL (q :: rs))) (mulL (BL rs) (tr q)) := eqp_ev fun x => by
 rw [evL_eqp x (cf_tr _), evL_mulL, evL_eqp x (cf_tr q)]
 simp only [BL, evL_mulL]
 grind
theorem yun_d {q : List Int} {rs : List (List Int)} : Eqp (tr (CL 0 (q :: rs))) (mulL (CL 1 rs) (tr q)) := eqp_ev fun x => by
 rw [evL_eqp x (cf_tr _), evL_mulL, evL_eqp x (cf_tr q)]
 simp only [CL, evL_addL, evL_scL, evL_mulL]
 grind
def YuI (qs : List (List Int)) (l : Nat) (g : List V) (S : St) : Prop := ∃ pre rest, qs = pre ++ rest ∧ g = partV 1 pre ∧ S.σ 0 = .raw (.func (.yield l) #[] #[]) ∧ S.σ 6 = .p (.sl (some 2) (PZ (tr (BL rest)))) ∧ S.σ 7 = .p (.sl (some 2) (PZ (tr (CL 1 rest)))) ∧
 S.σ 8 = .p (.i .i64 ((pre.length + 1 : Nat) : Int))
def goodPt (v0 v1 : V) : Prop := ∃ (k : Int) (q : List V), v0 = .i .i64 k ∧ v1 = .sl (some 2) q
def mkPt (v0 v1 : V) : V := .agg [v1, v0]
section
variable {A0 : Nat → Prop} {Tb T : TypeId} {sz : Option Nat} {pa pb qa qb tb tl tv nC : Nat} {cA cB : Code} {D0 l D : Nat} {w00 : World} {fn : FuncId} {tmps : Array Value}
set_option maxHeartbeats 2000000 in
theorem yun {k : Nat} {vs : List V} {a : List Int} {qs : List (List Int)} (hv : IsP k vs a) (hk : k ≤ 2 ^ 4) (hn : vs.length ≤ 2 ^ 10) (h : Dc k (ppL a) qs) (hq : qs.length ≤ 2 ^ 20)
 (hL : LC Tryz.prog nC Tb T sz pa pb qa qb tb tl tv cA cB goodPt mkPt) (htm : tmps.size = nC) (htb : tmps.getD tb undef = .pointer (some ⟨D0, 0, none⟩)) (hA0 : ∀ b, w00.heap.size ≤ b → A0 b) :
 WJ (colY (A0 := A0) (fn := fn) (l := l) (D := D) hL htm htb hA0) 51 sc_zsqf_parts_1 (fun e xs _ => (e = .normal ∨ e = .ret) ∧ xs = partV 1 qs) [] (SIt l [.ref none (.sl (some 2) vs)]) := by
 have lp := h.lp
 have p1 := own_plain (pprim hv (by omega) (by omega))
 have d1 := own_plain (pderiv (isP_PZ h.pl) (by omega) (by rw [PZ_length]; omega))
 have g1 := zgcd_de h (by omega)
 obtain ⟨e1, e2, e3⟩ := h.E
 have hdl := de_short (l := ppL a)
 rw [h.tp] at hdl
 have b1 := zby (q := BL qs) (isP_PZ (h.pl.mono (show k ≤ k + 1 by omega))) (isP_PZ (pl_tr e1)) (by omega) (by rw [PZ_length]; omega) (by rw [PZ_length]; omega) (by rw [tr_tr]; exact e3) (eqp_ev fun x => by rw [evL_mulL, evL_eqp x (cf_tr _), h.ev, ev_split x qs 0, Int.mul_comm])
 have b2 := zby (q := CL 1 qs) (isP_PZ (pl_tr (pl_de h.pl (by omega)))) (isP_PZ (pl_tr e1)) (by omega) (by rw [PZ_length]; omega) (by rw [PZ_length]; omega) (by rw [tr_tr]; exact e3) (eqp_ev fun x => by rw [evL_mulL, evL_eqp x (cf_tr _), evL_eqp x (cf_tr _), ev_de_congr h.ev, ev_split_de x qs 0, Int.mul_comm]; rfl)
 obtain ⟨p, hp⟩ : ∃ p, p = ppL a := ⟨_, rfl⟩
 rw [← hp] at p1 d1 g1 b1 b2 h
 obtain ⟨X, hX⟩ : ∃ X, X = PZ p := ⟨_, rfl⟩
 rw [← hX] at p1 d1 g1 b1
 obtain ⟨E1, hD⟩ : ∃ X, X = PZ (tr (deL p)) := ⟨_, rfl⟩
 rw [← hD] at d1 g1 b2
 obtain ⟨E, hE⟩ : ∃ X, X = PZ (tr (EL 0 qs)) := ⟨_, rfl⟩
 rw [← hE] at g1 b1 b2
 unfold sc_zsqf_parts_1
 refine WJ_seq (WJ_of (Q0 := fun e S' => e = .normal ∧ S'.σ 0 = .raw (.func (.yield l) #[] #[]) ∧ S'.σ 3 = .p (.sl (some 2) X)) ?_ ?_)
 · refine WS_reg [] ?_; simp [SIt]
   refine callK p1 ?_; simp [SIt]
 rintro e S1 ⟨rfl, s0, s3⟩
 simp only [thenJ]
 refine WJ_seq (WJ_of (Q0 := fun e S' => e = .normal ∧ S'.σ 0 = .raw (.func (.yield l) #[] #[]) ∧ S'.σ 3 = .p (.sl (some 2) X) ∧ S'.σ 4 = .p (.sl (some 2) E1)) ?_ ?_)
 · refine WS_reg [] ?_; simp [s0, s3]
   refine callK d1 ?_; simp [s0, s3]
 clear s0 s3
 rintro e S2 ⟨rfl, s0, s3, s4⟩
 simp only [thenJ]
 refine WJ_seq (WJ_of (Q0 := fun e S' => e = .normal ∧ S'.σ 0 = .raw (.func (.yield l) #[] #[]) ∧ S'.σ 3 = .p (.sl (some 2) X) ∧ S'.σ 4 = .p (.sl (some 2) E1) ∧ S'.σ 5 = .p (.sl (some 2) E)) ?_ ?_)
 · refine WS_reg [] ?_; simp [s0, s3, s4]
   refine callK g1 ?_; simp [s0, s3, s4]
 clear s0 s3 s4
 rintro e S3 ⟨rfl, s0, s3, s4, s5⟩
 simp only [thenJ]
 refine WJ_seq (WJ_of (Q0 := fun e S' => e = .normal ∧ S'.σ 0 = .raw (.func (.yield l) #[] #[]) ∧ S'.σ 6 = .p (.sl (some 2) (PZ (tr (BL qs)))) ∧ S'.σ 7 = .p (.sl (some 2) (PZ (tr (CL 1 qs))))) ?_ ?_)
 · refine WS_reg [] ?_; simp [s0, s3, s4, s5]
   refine callK b1 ?_; simp [s0, s3, s4, s5]
   refine callK b2 ?_; simp [s0, s3, s4, s5]
 clear s0 s3 s4 s5
 rintro e S4 ⟨rfl, s0, s6, s7⟩
 simp only [thenJ]
 refine WJ_seq (WJ_of (Q0 := fun e S' => e = .normal ∧ S'.σ 0 = .raw (.func (.yield l) #[] #[]) ∧ S'.σ 6 = .p (.sl (some 2) (PZ (tr (BL qs)))) ∧ S'.σ 7 = .p (.sl (some 2) (PZ (tr (CL 1 qs)))) ∧ S'.σ 8 = .p (.i .i64 1)) ?_ ?_)
 · refine WS_reg [] ?_; simp [s0, s6, s7]
 clear s0 s6 s7
 rintro e S5 ⟨rfl, s0, s6, s7, s8⟩
 simp only [thenJ]
 clear p1 d1 g1 b1 b2 hX hD hE
 refine WJ_block (WJ_loop (YuI qs l) (fun _ S => qs.length + 2 - nM 8 S) ⟨[], qs, rfl, rfl, s0, s6, s7, s8⟩ ?_)
 clear s0 s6 s7 s8
 rintro g S ⟨pre, rest, he, hg, s0, s6, s7, s8⟩
 have d8 := nM_eq s8
 subst he
 obtain ⟨r, hr⟩ := dc_at pre rest h
 have hlen : pre.length ≤ 2 ^ 20 := by simp at hq; omega
 have hBl := PZ_length (tr (BL rest))
 by_cases hb : (tr (BL rest)).length ≤ 1
 · have hbI : ¬ (1 : Int) < ((tr (BL rest)).length : Int) := by omega
   refine WJ_seq (WJ_of (Q0 := fun e S' => e = .exit 0) ?_ ?_)
   · obtain ⟨B, hB⟩ : ∃ X, X = PZ (tr (BL rest)) := ⟨_, rfl⟩
     rw [← hB] at s6 hBl
     refine Wr ?_; simp [s0, s6, s7, s8, hBl, hbI]
     refine WS_cF (by simp [s0, s6, s7, s8, hBl, hbI]) ?_
     refine WS_exit ?_; simp [s0, s6, s7, s8, hBl, hbI]
   · rintro e S' rfl
     simp only [thenJ, blockJ, if_true]
     refine ⟨.inl trivial, ?_⟩
     rw [hg, partV_append, partV_end rest _ hr.ok hb, List.append_nil]
 obtain ⟨q, rs, rfl⟩ := BL_ne hr.ok (by omega)
 have hbI : (1 : Int) < ((tr (BL (q :: rs))).length : Int) := by omega
 obtain ⟨B1, B2, B3⟩ := hr.B
 obtain ⟨C1, C2⟩ := hr.C
 have hdl2 := de_short (l := tr (BL (q :: rs)))
 rw [tr_tr] at hdl2
 have d1 := own_plain (pderiv (isP_PZ (pl_tr B1)) (by omega) (by rw [PZ_length]; omega))
 have c1 := own_plain (psub' (isP_PZ (pl_tr C1)) (isP_PZ (pl_tr (pl_de (pl_tr B1) (by omega)))) (by omega) (by rw [PZ_length]; omega) (by rw [PZ_length]; omega))
 rw [yun_c] at c1
 have hC0 : PL (k + 5) (CL 0 (q :: rs)) := by
  have h1 : PL (k + 5) (addL (tr (CL 1 (q :: rs))) (scL (-1) (tr (deL (tr (BL (q :: rs))))))) := fun i => by
   rw [cf_addL, cf_scL]
   have h2 := pl_tr C1 i
   have h3 := pl_tr (pl_de (pl_tr B1) (by omega)) i
   have h4 := zlen_add (cf (tr (CL 1 (q :: rs))) i) (-1 * cf (tr (deL (tr (BL (q :: rs))))) i)
   have h5 : zlen (-1 * cf (tr (deL (tr (BL (q :: rs))))) i) = zlen (cf (tr (deL (tr (BL (q :: rs))))) i) := by rw [Int.neg_one_mul, zlen_neg]
   rw [h5] at h4
   omega
  exact pl_mono' h1 (eqp_of_tr yun_c)
 have hC0l : (tr (CL 0 (q :: rs))).length ≤ 25 := by
  rw [← yun_c]
  have h1 := tr_len (addL (tr (CL 1 (q :: rs))) (scL (-1) (tr (deL (tr (BL (q :: rs)))))))
  rw [addL_len] at h1
  simp only [scL, List.length_map] at h1
  have h3 : max (tr (CL 1 (q :: rs))).length (tr (deL (tr (BL (q :: rs))))).length ≤ 25 := Nat.max_le.2 ⟨C2, by omega⟩
  exact Nat.le_trans h1 h3
 have g1 := own_plain (ggcd2 (L := 25) (isP_PZ ((pl_tr B1).mono (show k + 1 + 1 ≤ k + 5 by omega))) (isP_PZ (pl_tr hC0)) (by rw [PZ_length]; omega) (by rw [PZ_length]; omega) (by rw [tr_tr]; exact B2) (by rw [tr_tr]; exact hC0l) (by omega) (by omega) (by omega))
 rw [yun_g hr.ok] at g1
 have hqd : PL (k + 5) q ∧ (tr q).length ≤ 25 ∧ tr q ≠ [] := by
  have := div_lim (d := BL rs) B1 (q := q) (fun x => by simp only [BL, evL_mulL]; grind) B3 B2
  exact ⟨this.1.mono (by omega), this.2⟩
 have b1 := zby (q := BL rs) (isP_PZ ((pl_tr B1).mono (show k + 1 + 1 ≤ k + 5 by omega))) (isP_PZ (pl_tr hqd.1)) (by omega) (by rw [PZ_length]; omega) (by rw [PZ_length]; omega) (by rw [tr_tr]; exact hqd.2.2) yun_b
 have b2 := zby (q := CL 1 rs) (isP_PZ (pl_tr hC0)) (isP_PZ (pl_tr hqd.1)) (by omega) (by rw [PZ_length]; omega) (by rw [PZ_length]; omega) (by rw [tr_tr]; exact hqd.2.2) yun_d
 have hQl := PZ_length (tr q)
 have w8 : IntKind.i64.wrap (((pre.length + 1 : Nat) : Int) + 1) = ((pre.length + 1 + 1 : Nat) : Int) := i64_succ (pre.length + 1) (by omega)
 obtain ⟨B, hB⟩ : ∃ X, X = PZ (tr (BL (q :: rs))) := ⟨_, rfl⟩
 rw [← hB] at s6 hBl d1 g1 b1
 obtain ⟨C, hC⟩ : ∃ X, X = PZ (tr (CL 1 (q :: rs))) := ⟨_, rfl⟩
 rw [← hC] at s7 c1
 obtain ⟨Dv, hDv⟩ : ∃ X, X = PZ (tr (deL (tr (BL (q :: rs))))) := ⟨_, rfl⟩
 rw [← hDv] at d1 c1
 obtain ⟨C', hC'⟩ : ∃ X, X = PZ (tr (CL 0 (q :: rs))) := ⟨_, rfl⟩
 rw [← hC'] at c1 g1 b2
 obtain ⟨W, hW⟩ : ∃ X, X = PZ (tr q) := ⟨_, rfl⟩
 rw [← hW] at g1 b1 b2 hQl
 obtain ⟨lq, hlq⟩ : ∃ n, n = (tr q).length := ⟨_, rfl⟩
 obtain ⟨lb, hlb⟩ : ∃ n, n = (tr (BL (q :: rs))).length := ⟨_, rfl⟩
 rw [← hlq] at hQl
 rw [← hlb] at hBl hbI
 have hpt : partV 1 (pre ++ [q]) = if 2 ≤ lq then g ++ [mkPt (.i .i64 ((pre.length + 1 : Nat) : Int)) (.sl (some 2) W)] else g := by
  rw [partV_append, ← hg, partV, ← hlq, ← hW, Nat.add_comm 1]
  split
  · rfl
  · simp [partV]
 have hgl : g.length ≤ 2 ^ 20 := by rw [hg]; have := partV_len pre 1; omega
 refine WJ_seq (WJ_of (Q0 := fun e S' => e = .normal ∧ S'.σ 0 = .raw (.func (.yield l) #[] #[]) ∧ S'.σ 6 = .p (.sl (some 2) B) ∧ S'.σ 7 = .p (.sl (some 2) C) ∧ S'.σ 8 = .p (.i .i64 ((pre.length + 1 : Nat) : Int))) ?_ ?_)
 · refine Wr ?_; simp [s0, s6, s7, s8, hBl, hbI]
   refine WS_cT (by simp [s0, s6, s7, s8, hBl, hbI]) ?_
   refine WS_skip ?_; simp [s0, s6, s7, s8, hBl, hbI]
 clear s0 s6 s7 s8
 rintro e S1 ⟨rfl, s0, s6, s7, s8⟩
 simp only [thenJ]
 have last : ∀ (g' : List V) (S' : St), g' = partV 1 (pre ++ [q]) → S'.σ 0 = .raw (.func (.yield l) #[] #[]) → S'.σ 6 = .p (.sl (some 2) (PZ (tr (BL rs)))) → S'.σ 7 = .p (.sl (some 2) (PZ (tr (CL 1 rs)))) → S'.σ 8 = .p (.i .i64 ((pre.length + 1 : Nat) : Int)) →
  WJ (colY (A0 := A0) (fn := fn) (l := l) (D := D) hL htm htb hA0) 51 (SC.reg [⟨some 26, .mv (.t 8), none⟩, ⟨some 27, .bin .add (.t 26) (.c (.i .i64 1)), none⟩, ⟨some 8, .mv (.t 27), none⟩])
   (thenJ (fun g'' S'' => YuI (pre ++ q :: rs) l g'' S'' ∧ (pre ++ q :: rs).length + 2 - nM 8 S'' < (pre ++ q :: rs).length + 2 - nM 8 S) (blockJ 0 fun e xs _ => (e = .normal ∨ e = .ret) ∧ xs = partV 1 (pre ++ q :: rs))) g' S' := by
  intro g' S' hg' s0 s6 s7 s8
  have w8' : IntKind.i64.wrap ((pre.length : Int) + 1 + 1) = (pre.length : Int) + 1 + 1 := i64_int _ (by omega) (by omega)
  refine WJ_of (Q0 := fun e S'' => e = .normal ∧ S''.σ 0 = .raw (.func (.yield l) #[] #[]) ∧ S''.σ 6 = .p (.sl (some 2) (PZ (tr (BL rs)))) ∧ S''.σ 7 = .p (.sl (some 2) (PZ (tr (CL 1 rs)))) ∧ S''.σ 8 = .p (.i .i64 ((pre.length + 1 + 1 : Nat) : Int))) ?_ ?_
  · refine WS_reg [] ?_; simp [s0, s6, s7, s8, w8, w8']
  · rintro e S'' ⟨rfl, t0, t6, t7, t8⟩
    simp only [thenJ]
    refine ⟨⟨pre ++ [q], rs, by simp, hg', t0, t6, t7, by rw [t8]; simp⟩, ?_⟩
    rw [d8, nM_eq t8]
    simp
    omega
 refine WJ_seq (WJ_block ?_)
 refine WJ_seq (WJ_of (Q0 := fun e S' => e = .normal ∧ S'.σ 0 = .raw (.func (.yield l) #[] #[]) ∧ S'.σ 6 = .p (.sl (some 2) B) ∧ S'.σ 7 = .p (.sl (some 2) C') ∧ S'.σ 8 = .p (.i .i64 ((pre.length + 1 : Nat) : Int))) ?_ ?_)
 · refine WS_reg [] ?_; simp [s0, s6, s7, s8]
   refine callK d1 ?_; simp [s0, s6, s7, s8]
   refine callK c1 ?_; simp [s0, s6, s7, s8]
 clear s0 s6 s7 s8
 rintro e S2 ⟨rfl, s0, s6, s7, s8⟩
 simp only [thenJ]
 refine WJ_seq (WJ_of (Q0 := fun e S' => e = .normal ∧ S'.σ 0 = .raw (.func (.yield l) #[] #[]) ∧ S'.σ 6 = .p (.sl (some 2) B) ∧ S'.σ 7 = .p (.sl (some 2) C') ∧ S'.σ 8 = .p (.i .i64 ((pre.length + 1 : Nat) : Int)) ∧ S'.σ 9 = .p (.sl (some 2) W)) ?_ ?_)
 · refine WS_reg [] ?_; simp [s0, s6, s7, s8]
   refine callK g1 ?_; simp [s0, s6, s7, s8]
 clear s0 s6 s7 s8
 rintro e S3 ⟨rfl, s0, s6, s7, s8, s9⟩
 simp only [thenJ]
 refine WJ_seq (WJ_of (Q0 := fun e S' => e = .normal ∧ S'.σ 0 = .raw (.func (.yield l) #[] #[]) ∧ S'.σ 6 = .p (.sl (some 2) (PZ (tr (BL rs)))) ∧ S'.σ 7 = .p (.sl (some 2) (PZ (tr (CL 1 rs)))) ∧ S'.σ 8 = .p (.i .i64 ((pre.length + 1 : Nat) : Int)) ∧ S'.σ 9 = .p (.sl (some 2) W)) ?_ ?_)
 · refine WS_reg [] ?_; simp [s0, s6, s7, s8, s9]
   refine callK b1 ?_; simp [s0, s6, s7, s8, s9]
   refine callK b2 ?_; simp [s0, s6, s7, s8, s9]
 clear s0 s6 s7 s8 s9
 rintro e S4 ⟨rfl, s0, s6, s7, s8, s9⟩
 simp only [thenJ]
 refine WJ_seq ?_
 have tail : ∀ (g' : List V) (S' : St), g' = partV 1 (pre ++ [q]) → S'.σ 50 = .p (.b false) → S'.σ 0 = .raw (.func (.yield l) #[] #[]) → S'.σ 6 = .p (.sl (some 2) (PZ (tr (BL rs)))) → S'.σ 7 = .p (.sl (some 2) (PZ (tr (CL 1 rs)))) → S'.σ 8 = .p (.i .i64 ((pre.length + 1 : Nat) : Int)) →
  WJ (colY (A0 := A0) (fn := fn) (l := l) (D := D) hL htm htb hA0) 51 (SC.cond (.t 50) .ret .skip)
   (blockJ 1 (thenJ (WJ (colY (A0 := A0) (fn := fn) (l := l) (D := D) hL htm htb hA0) 51 (SC.reg [⟨some 26, .mv (.t 8), none⟩, ⟨some 27, .bin .add (.t 26) (.c (.i .i64 1)), none⟩, ⟨some 8, .mv (.t 27), none⟩])
   (thenJ (fun g'' S'' => YuI (pre ++ q :: rs) l g'' S'' ∧ (pre ++ q :: rs).length + 2 - nM 8 S'' < (pre ++ q :: rs).length + 2 - nM 8 S) (blockJ 0 fun e xs _ => (e = .normal ∨ e = .ret) ∧ xs = partV 1 (pre ++ q :: rs))))
   (thenJ (fun g'' S'' => YuI (pre ++ q :: rs) l g'' S'' ∧ (pre ++ q :: rs).length + 2 - nM 8 S'' < (pre ++ q :: rs).length + 2 - nM 8 S) (blockJ 0 fun e xs _ => (e = .normal ∨ e = .ret) ∧ xs = partV 1 (pre ++ q :: rs))))) g' S' := by
  intro g' S' hg' s50 s0 s6 s7 s8
  refine WJ_cond (t := false) (by simp [s50]) (fun h => by cases h) fun _ => WJ_of (Q0 := fun e S'' => e = .normal ∧ S'' = S') (WS_skip ⟨rfl, rfl⟩) ?_
  rintro e S'' ⟨rfl, rfl⟩
  simp only [blockJ, thenJ]
  exact last g' S'' hg' s0 s6 s7 s8
 by_cases h2 : 2 ≤ lq
 · have h2I : (1 : Int) < (lq : Int) := by omega
   rw [if_pos h2] at hpt
   refine WJ_yield (sp := [⟨some 41, .mv (.t 9), none⟩, ⟨some 42, .len false (.t 41), none⟩, ⟨some 43, .bin .gtr (.t 42) (.c (.i .i64 1)), none⟩, ⟨some 44, .mv (.t 43), none⟩, ⟨some 45, .mv (.t 0), some (44, true)⟩, ⟨some 46, .mv (.t 8), some (44, true)⟩, ⟨some 47, .mv (.t 9), some (44, true)⟩])
    (sq := [⟨some 49, .un .not (.t 48), some (44, true)⟩, ⟨some 50, .pick (.t 44) (.t 49) (.c (.b false)), none⟩]) []
    (K1 := fun S' => S'.σ 0 = .raw (.func (.yield l) #[] #[]) ∧ S'.σ 6 = .p (.sl (some 2) (PZ (tr (BL rs)))) ∧ S'.σ 7 = .p (.sl (some 2) (PZ (tr (CL 1 rs)))) ∧ S'.σ 8 = .p (.i .i64 ((pre.length + 1 : Nat) : Int)) ∧ S'.σ 44 = .p (.b true) ∧ S'.σ 45 = .raw (.func (.yield l) #[] #[]) ∧ S'.σ 46 = .p (.i .i64 ((pre.length + 1 : Nat) : Int)) ∧ S'.σ 47 = .p (.sl (some 2) W)) ?_ ?_
   · simp [s0, s6, s7, s8, s9, hQl, h2I, show 1 < lq by omega]
   · rintro S5 ⟨s0, s6, s7, s8, s44, s45, s46, s47⟩
     refine ⟨s44, s45, [.i .i64 ((pre.length + 1 : Nat) : Int), .sl (some 2) W], by simp [s46, s47, plains], ⟨_, hgl, _, _, rfl, ⟨_, _, rfl, rfl⟩, rfl⟩, ?_⟩
     rintro g' ⟨_, v0, v1, hvs, _, rfl⟩
     simp only [List.cons.injEq, and_true] at hvs
     obtain ⟨rfl, rfl⟩ := hvs
     have T := tail (g ++ [mkPt (.i .i64 ((pre.length + 1 : Nat) : Int)) (.sl (some 2) W)]) (⟨upd (upd (upd S5.σ 48 (.p (.b true))) 49 (.p (.b false))) 50 (.p (.b false)), fun r => ⟨(S5.h r).g + 1, none⟩⟩ : St) hpt.symm (by simp [upd_apply]) (by simp [upd_apply, s0]) (by simp [upd_apply, s6]) (by simp [upd_apply, s7]) (by simp [upd_apply, s8])
     simpa [s44, thenJ, upd_apply] using T
 · have h2I : ¬ (1 : Int) < (lq : Int) := by omega
   rw [if_neg h2] at hpt
   refine WJ_of (Q0 := fun e S' => e = .normal ∧ S'.σ 50 = .p (.b false) ∧ S'.σ 0 = .raw (.func (.yield l) #[] #[]) ∧ S'.σ 6 = .p (.sl (some 2) (PZ (tr (BL rs)))) ∧ S'.σ 7 = .p (.sl (some 2) (PZ (tr (CL 1 rs)))) ∧ S'.σ 8 = .p (.i .i64 ((pre.length + 1 : Nat) : Int))) ?_ ?_
   · refine WS_reg [] ?_; simp [s0, s6, s7, s8, s9, hQl, h2I, show ¬ 1 < lq by omega]
   · rintro e S' ⟨rfl, t50, t0, t6, t7, t8⟩
     simp only [thenJ]
     exact tail g S' hpt.symm t50 t0 t6 t7 t8
end
set_option maxRecDepth 100000
abbrev f_zsqf_Parts : Nat := 21
def seqA : Code → Code | .seq a _ => a | c => c
def seqB : Code → Code | .seq _ b => b | c => c
def rngA : Code → Code | .block _ (.rangeFunc _ _ a _) => a | c => c
def rngB : Code → Code | .block _ (.rangeFunc _ _ _ b) => b | c => c
noncomputable def pBody : Code := match Tryz.f21.body with | some c => c | none => .skip
noncomputable def pA : Code := seqA pBody
noncomputable def pB : Code := seqA (seqB pBody)
noncomputable def pD : Code := seqA (seqA (seqB (seqB (seqB pBody))))
noncomputable def pAs : Code := rngA (seqB (seqA (seqB (seqB (seqB pBody)))))
noncomputable def pBd : Code := rngB (seqB (seqA (seqB (seqB (seqB pBody)))))
def sc_PA : SC := .reg [⟨some 2, .nilSl 38 (some 2), none⟩, ⟨some 3, .mv (.c (.i .i64 0)), none⟩]
def sc_PB : SC := .seq (.reg [⟨some 8, .mv (.t 0), none⟩, ⟨some 9, .call (.f f_zsqf_wrong) [.t 8], none⟩, ⟨some 4, .mv (.t 9), none⟩])
 (.seq (.reg [⟨some 10, .mv (.t 4), none⟩, ⟨some 11, .bin .neq (.t 10) (.c (.i .i64 0)), none⟩])
  (.cond (.t 11) (.seq (.reg [⟨some 12, .mv (.t 4), none⟩, ⟨some 2, .nilSl 38 (some 2), none⟩, ⟨some 3, .mv (.t 12), none⟩]) .ret) .skip))
def sc_PD : SC := .reg [⟨some 13, .mv (.t 0), none⟩, ⟨some 14, .call (.f f_zsqf_parts) [.t 13], none⟩]
def sc_PM : List SOp := [⟨some 18, .mv (.t 7), none⟩, ⟨some 19, .mv (.t 6), none⟩, ⟨some 20, .build [(.sl (some 2) []), (.i .i64 0)] [(0, (1, (.t 18))), (1, (1, (.t 19)))], none⟩, ⟨some 21, .mkSl 38 (some 2) [.t 20], none⟩, ⟨some 22, .append 38 (some 2) 32 (.t 17) (.t 21), none⟩]
theorem ok_PA : slimCode Tryz.prog 24 pA = some sc_PA := by kernel_rfl
theorem ok_PB : slimCode Tryz.prog 24 pB = some sc_PB := by kernel_rfl
theorem ok_PD : slimCode Tryz.prog 24 pD = some sc_PD := by kernel_rfl
theorem cf_P : CF Tryz.prog Tryz.f21 34 pA pB pD pAs pBd :=
 ⟨⟨_, _, _, _, _, _, _, rfl, rfl, rfl, rfl, rfl, rfl, rfl, rfl, rfl, rfl, rfl, rfl, rfl⟩, rfl, by decide, rfl, ⟨_, rfl, rfl⟩⟩
theorem lc_P : LC Tryz.prog 24 34 38 (some 2) 15 16 6 7 5 17 22 pAs pBd goodPt mkPt :=
 ⟨⟨_, _, _, _, rfl, rfl, rfl, rfl, rfl, rfl, rfl⟩,
  ⟨_, _, _, _, [_, _, _, _, _], _, sc_PM, rfl, rfl, rfl, rfl, rfl, rfl, rfl, rfl, by kernel_rfl, by
   rintro D0 xs v0 v1 hx ⟨k, q, rfl, rfl⟩
   unfold sc_PM
   simp [mkPt]
   omega⟩, by kernel_rfl, by decide, by decide, by decide⟩
theorem slimF_inv {P : Program} {fn : Func} {n : Nat} {sc : SC} {rs : List SRes} (hs : slimF P fn = some (n, sc, rs)) : ∃ c, fn.body = some c ∧ (fn.name == "runtime.NumGoroutine") = false ∧ fn.ntmps = n ∧ slimCode P n c = some sc := by
 unfold slimF at hs
 split at hs
 · rename_i c hb
   split at hs
   · cases hs
   · rename_i hname
     split at hs
     · rename_i sc' rs' h1 h2
       simp only [Option.some.injEq, Prod.mk.injEq] at hs
       obtain ⟨rfl, rfl, rfl⟩ := hs
       exact ⟨c, hb, by simpa using hname, rfl, h1⟩
     · cases hs
 · cases hs
theorem Spec.plain2 {f : FuncId} {args : List V} {T : TypeId} {xs : List V} {v : V} (h : Spec Tryz.prog f args (· = [.own T (some 2) xs, .pure v])) : Spec Tryz.prog f args (· = [.pure (.sl (some 2) xs), .pure v]) :=
 h.plain fun r e => by rw [e]; rfl
theorem zParts {k : Nat} {vs : List V} {a : List Int} {qs : List (List Int)} (hv : IsP k vs a) (hk : k ≤ 2 ^ 4) (hn : vs.length ≤ 2 ^ 10) (h : Dc k (ppL a) qs) (hq : qs.length ≤ 2 ^ 20) (hw : wrE a = 0) :
 Spec Tryz.prog f_zsqf_Parts [.sl (some 2) vs] (· = [.pure (.sl (some 2) (partV 1 qs)), .pure (.i .i64 0)]) := by
 have w1 := zwrong hv (by omega) (by omega)
 rw [hw] at w1
 have z1 := zparts vs
 obtain ⟨gc, g1, g2, g3, g4⟩ := slimF_inv ok_zsqf_parts_1
 refine Spec.plain2 (T := 38) ?_
 refine spec_collect (G := True) [] rfl (xs := partV 1 qs) (gsc := sc_zsqf_parts_1) (caps := [.ref none (.sl (some 2) vs)]) Tryz.func21 cf_P ok_PA ok_PB ok_PD (by simp) lc_P (gf := f_zsqf_parts_1) Tryz.func122 g1 g2 g3 g4 rfl (by simp) (fun _ => rfl) ?_ ?_
 · unfold sc_PA sc_PB sc_PD
   refine WS_reg [] ?_; simp
   refine Wr ?_; simp
   refine callK w1 ?_; simp
   refine Wr ?_; simp
   refine WS_cond (t := false) (by simp) (fun h => by cases h) fun _ => WS_skip (.inr ⟨rfl, fun D0 => ?_⟩)
   refine WS_reg [] ?_; simp [boxed]
   refine callK z1 ?_; simp
 · intro _ A0 D0 l D w00 fno tmps htm htb hA0
   exact yun hv hk hn h hq lc_P htm htb hA0
theorem zParts_wrong {k : Nat} {vs : List V} {a : List Int} (hv : IsP k vs a) (hk : k ≤ 2 ^ 40) (hn : vs.length ≤ 2 ^ 40) (hw : wrE a ≠ 0) :
 Spec Tryz.prog f_zsqf_Parts [.sl (some 2) vs] (· = [.pure (.sl (some 2) []), .pure (.i .i64 (wrE a))]) := by
 have w1 := zwrong hv (by omega) (by omega)
 obtain ⟨e, he⟩ : ∃ e, e = wrE a := ⟨_, rfl⟩
 rw [← he] at w1 hw ⊢
 obtain ⟨gc, g1, g2, g3, g4⟩ := slimF_inv ok_zsqf_parts_1
 refine spec_collect (G := False) [] rfl (xs := []) (gsc := sc_zsqf_parts_1) (caps := [.ref none (.sl (some 2) vs)]) Tryz.func21 cf_P ok_PA ok_PB ok_PD (by simp) lc_P (gf := f_zsqf_parts_1) Tryz.func122 g1 g2 g3 g4 rfl (by simp) (fun h => h.elim) ?_ (fun h => h.elim)
 unfold sc_PA sc_PB sc_PD
 refine WS_reg [] ?_; simp
 refine Wr ?_; simp
 refine callK w1 ?_; simp
 refine Wr ?_; simp
 refine WS_cT (by simp [hw]) ?_
 refine Wr ?_; simp
 refine WS_ret ?_; simp
def sqS : List Int → Int
 | [] => 0
 | x :: l => x * x + sqS l
theorem sqS_append (a b : List Int) : sqS (a ++ b) = sqS a + sqS b := by
 induction a with
 | nil => simp [sqS]
 | cons x a ih => simp only [List.cons_append, sqS, ih]; omega
theorem sqS_nonneg (l : List Int) : 0 ≤ sqS l := by
 induction l with
 | nil => simp [sqS]
 | cons x a ih => have : 0 ≤ x * x := (Int.natAbs_mul_self (a := x)) ▸ Int.natCast_nonneg _; simp only [sqS]; omega
theorem sqS_take {l : List Int} {i : Nat} (h : i < l.length) : sqS (l.take (i + 1)) = sqS (l.take i) + cf l i * cf l i := by
 rw [List.take_succ_eq_append_getElem h, sqS_append]
 simp [sqS, cf, List.getD_eq_getElem?_getD, List.getElem?_eq_getElem h]
theorem sqS_lim {k : Nat} {l : List Int} (h : PL k l) : ∀ i, i ≤ l.length → zlen (sqS (l.take i) - 1) ≤ 2 * k + 1 + i
 | 0, _ => by
  have : zlen (0 - 1) ≤ 1 := by decide
  simp only [List.take_zero, sqS]
  omega
 | i + 1, hi => by
  have ih := sqS_lim h i (by omega)
  have h1 := zlen_mul (cf l i) (cf l i)
  have h2 := h i
  have h3 := zlen_add (sqS (l.take i) - 1) (cf l i * cf l i)
  rw [sqS_take (by omega), show sqS (l.take i) + cf l i * cf l i - 1 = sqS (l.take i) - 1 + cf l i * cf l i by omega]
  omega
theorem sq_nonneg' (x : Int) : 0 ≤ x * x := (Int.natAbs_mul_self (a := x)) ▸ Int.natCast_nonneg _
theorem sqS_ge : ∀ (l : List Int) (i : Nat), cf l i * cf l i ≤ sqS l
 | [], i => by simp [cf, sqS]
 | x :: l, 0 => by have := sqS_nonneg l; show x * x ≤ x * x + sqS l; omega
 | x :: l, i + 1 => by have := sqS_ge l i; have := sq_nonneg' x; show cf l i * cf l i ≤ x * x + sqS l; omega
theorem sqS_pos {l : List Int} (h : tr l ≠ []) : 1 ≤ sqS (tr l) := by
 have h1 := tr_last l h
 have h2 := sqS_ge (tr l) ((tr l).length - 1)
 have h3 := sq_nonneg' (cf (tr l) ((tr l).length - 1))
 have h4 : cf (tr l) ((tr l).length - 1) * cf (tr l) ((tr l).length - 1) ≠ 0 := Int.mul_ne_zero h1 h1
 omega
def bndZ (l : List Int) : Int := (((iroot (sqS l - 1).toNat 2 + 1) * 2 ^ (l.length - 1) : Nat) : Int)
def BdS (X : List V) (l : List Int) (S : St) : Prop := ∃ i : Nat, i ≤ l.length ∧ S.σ 0 = .p (.sl (some 2) X) ∧ S.σ 21 = .p (.sl (some 2) X) ∧ S.σ 22 = .p (.i .i64 (l.length : Int)) ∧ S.σ 23 = .p (.i .i64 (i : Int)) ∧
 S.σ 2 = .ptr 2 1 0 ∧ S.h 2 = ⟨1, some (.box 28 [.b false, .sl none []])⟩ ∧ S.σ 5 = .ptr 5 1 0 ∧ S.h 5 = ⟨1, some (.box 28 [.b (zn (sqS (l.take i) - 1)), .sl none (uL (zl (sqS (l.take i) - 1)))])⟩
theorem zbound_wrong {k : Nat} {vs : List V} {a : List Int} (hv : IsP k vs a) (hk : k ≤ 2 ^ 40) (hn : vs.length ≤ 2 ^ 40) (hw : wrE a ≠ 0) :
 Spec Tryz.prog f_zsqf_Bound [.sl (some 2) vs] (· = [.pure (Z 0), .pure (.i .i64 (wrE a))]) := by
 have w1 := zwrong hv (by omega) (by omega)
 obtain ⟨e, he⟩ : ∃ e, e = wrE a := ⟨_, rfl⟩
 rw [← he] at w1 hw ⊢
 refine spec_at Tryz.func31 ok_zsqf_Bound [] rfl (by simp) ?_
 unfold sc_zsqf_Bound
 refine Wr ?_; simp [hw, Z_zero]
 refine Ws ?_; simp [hw, Z_zero]
 refine callK w1 ?_; simp [hw, Z_zero]
 refine Wr ?_; simp [hw, Z_zero]
 refine WS_cT (by simp [hw, Z_zero]) ?_
 refine Wr ?_; simp [hw, Z_zero]
 refine WS_ret ?_; simp [hw, Z_zero]
set_option maxHeartbeats 1000000 in
theorem zbound {k : Nat} {vs : List V} {a : List Int} (hv : IsP k vs a) (hk : k ≤ 2 ^ 10) (hn : vs.length ≤ 2 ^ 20) (hw : wrE a = 0) :
 Spec Tryz.prog f_zsqf_Bound [.sl (some 2) vs] (· = [.pure (Z (bndZ (tr a))), .pure (.i .i64 0)]) := by
 have w1 := zwrong hv (by omega) (by omega)
 rw [hw] at w1
 have n1 := own_plain (pnorm hv (by omega) (by omega))
 have om := zof (-1) (by omega) (by omega)
 have o1 := zof 1 (by omega) (by omega)
 have hpl : PL k (tr a) := pl_tr hv.pl
 have hl : (tr a).length ≠ 0 ∧ (tr a).length ≤ 65 := by
  rw [wrE] at hw
  split at hw
  · cases hw
  · split at hw
    · cases hw
    · omega
 have hp := sqS_pos (l := a) (fun h => hl.1 (by rw [h]; rfl))
 have xl := PZ_length (tr a)
 obtain ⟨l, hll⟩ : ∃ l, l = tr a := ⟨_, rfl⟩
 rw [← hll] at n1 hpl hl hp xl ⊢
 have hget := fun i h => PZ_get l i h
 have hlim := sqS_lim hpl
 obtain ⟨X, hX⟩ : ∃ X, X = PZ l := ⟨_, rfl⟩
 rw [← hX] at n1 xl
 have e0 : sqS (l.take 0) - 1 = -1 := by simp [sqS]
 refine spec_at Tryz.func31 ok_zsqf_Bound [] rfl (by simp) ?_
 unfold sc_zsqf_Bound
 refine Wr ?_; simp [xl, Z_zero]
 refine Ws ?_; simp [xl, Z_zero]
 refine callK w1 ?_; simp [xl, Z_zero]
 refine Wr ?_; simp [xl, Z_zero]
 refine WS_cF (by simp [xl, Z_zero]) ?_
 refine WS_skip ?_; simp [xl, Z_zero]
 refine Wr ?_; simp [xl, Z_zero]
 refine callK n1 ?_; simp [xl, Z_zero]
 refine Wr ?_; simp [xl, Z_zero]
 refine callK om ?_; simp [xl, Z_zero]
 refine Ws ?_; simp [xl, Z_zero]
 refine WS_block ?_
 refine WS_loop (BdS X l) (fun S => l.length - nM 23 S) ⟨0, by omega, rfl, rfl, by simp, rfl, rfl, rfl, rfl, by rw [e0]; rfl⟩ ?_
 rintro S ⟨i, hi, s0, s21, s22, s23, s2, h2, s5, h5⟩
 have d23 := nM_eq s23
 have li := hlim i hi
 by_cases hlt : i < l.length
 · have hltI : (i : Int) < (l.length : Int) := by omega
   have lc := hpl i
   have mu := zmul (isZ_of lc) (isZ_of lc) (by omega)
   have lm := zlen_mul (cf l i) (cf l i)
   have ad := zadd (isZ_of (show zlen (sqS (l.take i) - 1) ≤ 2 ^ 12 by omega)) (isZ_of (show zlen (cf l i * cf l i) ≤ 2 ^ 12 by omega)) (by omega)
   rw [show sqS (l.take i) - 1 + cf l i * cf l i = sqS (l.take (i + 1)) - 1 by rw [sqS_take hlt]; omega] at ad
   have wi := i64_succ i (by omega)
   have hOl : i < X.length := by omega
   have hg2 : X[i] = .agg [.b (zn (cf l i)), .sl none (uL (zl (cf l i)))] := by simp only [hX]; exact hget i (by rw [PZ_length]; exact hlt)
   obtain ⟨s, hs⟩ : ∃ s, s = sqS (l.take i) - 1 := ⟨_, rfl⟩
   obtain ⟨s', hs'⟩ : ∃ s, s = sqS (l.take (i + 1)) - 1 := ⟨_, rfl⟩
   obtain ⟨c, hc⟩ : ∃ c, c = cf l i := ⟨_, rfl⟩
   obtain ⟨cc, hcc⟩ : ∃ c, c = cf l i * cf l i := ⟨_, rfl⟩
   rw [← hs] at h5 ad
   rw [← hs'] at ad
   rw [← hcc] at mu ad
   rw [← hc] at mu hg2
   refine Wr ?_; simp [s0, s21, s22, s23, s2, h2, s5, h5, hlt, hltI, xl, wi, hg2]
   refine WS_seq ?_
   refine WS_cT (by simp [s0, s21, s22, s23, s2, h2, s5, h5, hlt, hltI, xl, wi, hg2]) ?_
   refine WS_skip ?_; simp [s0, s21, s22, s23, s2, h2, s5, h5, hlt, hltI, xl, wi, hg2]
   refine WS_seq (WS_block (Wr ?_)); simp [s0, s21, s22, s23, s2, h2, s5, h5, hlt, hltI, xl, wi, hg2]
   refine WS_regD [] ?_; simp [s0, s21, s22, s23, s2, h2, s5, h5, hlt, hltI, xl, wi, hg2]
   refine callD mu rfl ?_; simp [s0, s21, s22, s23, s2, h2, s5, h5, hlt, hltI, xl, wi, hg2]
   refine callD ad rfl ?_; simp [s0, s21, s22, s23, s2, h2, s5, h5, hlt, hltI, xl, wi, hg2]
   refine ⟨rfl, ?_⟩
   refine WS_reg [] ?_; simp [s0, s21, s22, s23, s2, h2, s5, h5, hlt, hltI, xl, wi, hg2]
   refine ⟨⟨i + 1, by omega, by simp [s0], by simp [s21], by simp [s22], by simp, by simp [s2], by simp [h2], by simp [s5], by simp [← hs']⟩, ?_⟩
   show l.length - nM 23 _ < l.length - nM 23 S
   rw [d23, nM_eq (i := 23) (n := i + 1) (by simp)]
   omega
 · obtain rfl : i = l.length := by omega
   have hltI : ¬ (l.length : Int) < (l.length : Int) := by omega
   rw [List.take_length] at h5 li
   obtain ⟨s, hs⟩ : ∃ s, s = sqS l - 1 := ⟨_, rfl⟩
   have rt := zroot (isZ_of (show zlen s ≤ 4000 by rw [hs]; omega)) (by omega) 2 (by omega) (by omega)
   rw [rootR, if_neg (by omega)] at rt
   rw [bndZ]
   rw [← hs] at h5 ⊢
   obtain ⟨r, hr⟩ : ∃ r, r = iroot s.toNat 2 := ⟨_, rfl⟩
   rw [show ((2 : Int)).toNat = 2 from rfl, ← hr] at rt
   rw [← hr]
   have hrl : zlen (r : Int) ≤ 4000 := by
    have h1 := iroot_le s.toNat (show 0 < 2 by omega)
    rw [← hr] at h1
    have h2 : zlen ((s.toNat : Nat) : Int) ≤ 4000 := by rw [show ((s.toNat : Nat) : Int) = s by omega, hs]; omega
    exact Nat.le_trans (zlen_le (by omega)) h2
   have ad := zadd (isZ_of hrl) (isZ_of (show zlen 1 ≤ 4000 by decide)) (by omega)
   rw [show (r : Int) + 1 = ((r + 1 : Nat) : Int) by omega] at ad
   have hr1 : zlen ((r + 1 : Nat) : Int) ≤ 4001 := by
    have := zlen_add (r : Int) 1
    have h1 : zlen 1 ≤ 4000 := by decide
    rw [show ((r + 1 : Nat) : Int) = (r : Int) + 1 by omega]
    omega
   obtain ⟨m, hm⟩ : ∃ m, m = l.length - 1 := ⟨_, rfl⟩
   have sl := nshl_spec (zl ((r + 1 : Nat) : Int)) (zl_dl _) (by have := hr1; rw [zlen] at this; omega) (m : Int)
   have ev : Nm.val 18446744073709551616 (zl ((r + 1 : Nat) : Int)) = r + 1 := by rw [zl, Nm.val_dig (by omega), Int.natAbs_natCast]
   rw [if_neg (by omega), ev, show ((m : Int)).toNat = m by omega] at sl
   obtain ⟨P, hP⟩ : ∃ P, P = (r + 1) * 2 ^ m := ⟨_, rfl⟩
   rw [← hP] at sl
   have hPl : zlen (P : Int) ≤ 4100 := by
    have h1 := zlen_mul ((r + 1 : Nat) : Int) ((2 ^ m : Nat) : Int)
    have h2 : zlen ((2 ^ m : Nat) : Int) ≤ 2 := zlen_two (by omega)
    rw [hP, Int.natCast_mul]
    omega
   have mk := znorm_spec false (Nm.dig 18446744073709551616 P) ⟨Nm.dig_lt (by omega) _, by have := hPl; rw [zlen, zl, Int.natAbs_natCast] at this; omega⟩
   have e7 : zi false (Nm.dig 18446744073709551616 P) = (P : Int) := by simp [zi, Nm.val_dig]
   rw [e7] at mk
   rw [← hm, ← hP]
   have wm : IntKind.i64.wrap ((l.length : Int) - 1) = (m : Int) := by rw [i64_int _ (by omega) (by omega)]; omega
   refine Wr ?_; simp [s0, s21, s22, s23, s2, h2, s5, h5, hltI, xl, wm, U]
   refine WS_seq ?_
   refine WS_cF (by simp [s0, s21, s22, s23, s2, h2, s5, h5, hltI, xl, wm, U]) ?_
   refine WS_exit ?_; simp [s0, s21, s22, s23, s2, h2, s5, h5, hltI, xl, wm, U]
   refine Wr ?_; simp [s0, s21, s22, s23, s2, h2, s5, h5, hltI, xl, wm, U]
   refine callK rt ?_; simp [s0, s21, s22, s23, s2, h2, s5, h5, hltI, xl, wm, U]
   refine WS_seq (WS_regD [] ?_); simp [s0, s21, s22, s23, s2, h2, s5, h5, hltI, xl, wm, U]
   refine callD o1 rfl ?_; simp [s0, s21, s22, s23, s2, h2, s5, h5, hltI, xl, wm, U]
   refine callD ad rfl ?_; simp [s0, s21, s22, s23, s2, h2, s5, h5, hltI, xl, wm, U]
   refine callD sl rfl ?_; simp [s0, s21, s22, s23, s2, h2, s5, h5, hltI, xl, wm, U]
   refine ⟨rfl, ?_⟩
   refine Wr ?_; simp [s0, s21, s22, s23, s2, h2, s5, h5, hltI, xl, wm, U]
   refine callK mk ?_; simp [s0, s21, s22, s23, s2, h2, s5, h5, hltI, xl, wm, U]
   refine WS_ret ?_; simp [s0, s21, s22, s23, s2, h2, s5, h5, hltI, xl, wm, U]
theorem ppL_of_co {p : List Int} (h : coL p = 1) : ppL p = tr p := by
 have : Eqp p (scL 1 (ppL p)) := by rw [← h]; exact ppL_mul p
 have e : Eqp p (ppL p) := fun i => by rw [this i, cf_scL, Int.one_mul]
 rw [tr_of_eqp e, tr_ppL]
theorem Dc.pp {k : Nat} {p : List Int} {qs : List (List Int)} (h : Dc k p qs) : ppL p = p := by rw [ppL_of_co h.co, h.tp]
theorem Dc.eq {k : Nat} {p : List Int} {qs : List (List Int)} (h : Dc k p qs) : p = tr (PL' 1 qs) := by rw [← tr_of_eqp (eqp_ev h.ev), h.tp]
theorem ev_PB (x : Int) : ∀ (qs : List (List Int)) (w : Nat), evL x (PL' (w + 1) qs) = evL x (PL' w qs) * evL x (BL qs) := by
 intro qs
 induction qs with
 | nil => intro w; simp only [PL', BL, ev_one]; rfl
 | cons q qs ih => intro w; simp only [PL', BL, evL_mulL, ev_pow, ih, Int.pow_succ]; grind
theorem round_left {q : List Int} {qs : List (List Int)} (x : Int) : evL x (PL' 1 (q :: qs)) = evL x (PL' 1 qs) * evL x (BL (q :: qs)) := by
 simp only [PL', BL, evL_mulL, ev_pow, ev_PB x qs 1, Int.pow_succ, Int.pow_zero]
 grind
theorem Dc.next {k : Nat} {p q : List Int} {qs : List (List Int)} (h : Dc k p (q :: qs)) : Dc (k + 1) (tr (PL' 1 qs)) qs := by
 have h2 := div_lim (d := BL (q :: qs)) (q := PL' 1 qs) h.pl (fun x => by rw [h.ev, round_left, Int.mul_comm]) h.ne (by rw [h.tp]; exact h.lp)
 exact ⟨pl_tr h2.1, tr_tr _, h2.2.1, h.ok.2.2.2, fun x => evL_eqp x (cf_tr _)⟩
theorem Dc.rest {k : Nat} {p : List Int} : ∀ (pre qs : List (List Int)), Dc k p (pre ++ qs) → ∃ k', k' ≤ k + 1 ∧ Dc k' (tr (PL' 1 qs)) qs := by
 intro pre qs h
 cases pre with
 | nil => simp only [List.nil_append] at h; exact ⟨k, by omega, by rw [← h.eq]; exact h⟩
 | cons q pre =>
  obtain ⟨r, hr⟩ := dc_at (q :: pre) qs h
  exact ⟨k + 1, by omega, by rw [← hr.eq]; exact hr⟩
theorem Dc.is {k : Nat} {p : List Int} {qs : List (List Int)} (h : Dc k p qs) : ((tr (EL 0 qs)).length = 1 → p = tr (BL qs)) ∧ ((tr (EL 0 qs)).length ≠ 1 → p.length ≠ (tr (BL qs)).length) := by
 have e : Eqp p (mulL (EL 0 qs) (BL qs)) := eqp_ev fun x => by rw [h.ev, evL_mulL, ev_split x qs 0]
 have h1 := h.E.2.2
 have h2 := h.B.2.2
 have h3 := tr_mulL_len h1 h2
 rw [← tr_of_eqp e, h.tp] at h3
 have := List.length_pos_iff.2 h1
 have := List.length_pos_iff.2 h2
 refine ⟨fun h4 => ?_, fun h4 => by omega⟩
 have h5 := co_short (co_EL 0 h.ok) (by omega)
 have e2 : Eqp p (BL qs) := eqp_ev fun x => by rw [h.ev, ev_split x qs 0, h5, Int.one_mul]
 rw [← tr_of_eqp e2, h.tp]
theorem OkL.last {a : List (List Int)} : ∀ {pre : List (List Int)}, OkL (pre ++ a) → OkL a
 | [], h => h
 | _ :: pre, h => OkL.last (pre := pre) h.2.2.2
theorem partV_mem : ∀ {qs : List (List Int)} {n : Nat} {v : V}, v ∈ partV n qs → ∃ q ∈ qs, ∃ m : Nat, 2 ≤ (tr q).length ∧ v = .agg [.sl (some 2) (PZ (tr q)), .i .i64 (m : Int)]
 | q :: qs, n, v, h => by
  rw [partV] at h
  split at h
  · rename_i hl
    rcases List.mem_cons.1 h with h | h
    · exact ⟨q, by simp, n, hl, h⟩
    · obtain ⟨q', h1, h2⟩ := partV_mem h
      exact ⟨q', by simp [h1], h2⟩
  · obtain ⟨q', h1, h2⟩ := partV_mem h
    exact ⟨q', by simp [h1], h2⟩
theorem Dc.part {k : Nat} {p q : List Int} {qs : List (List Int)} (h : Dc k p qs) (hq : q ∈ qs) : PL (k + 3) (tr q) ∧ (tr q).length ≤ 25 := by
 obtain ⟨pre, rest, rfl⟩ := List.append_of_mem hq
 obtain ⟨r, hr⟩ := dc_at pre (q :: rest) h
 have := div_lim (d := BL rest) hr.B.1 (q := q) (fun x => by simp only [BL, evL_mulL]; grind) hr.B.2.2 hr.B.2.1
 exact ⟨pl_tr this.1, this.2.1⟩
def PsV (xs : List V) : Prop := ∀ v ∈ xs, ∃ (q : List Int) (m : Int), v = .agg [.sl (some 2) (PZ q), .i .i64 m] ∧ PL (2 ^ 40) q ∧ q.length ≤ 2 ^ 40
theorem Dc.psV {k : Nat} {p : List Int} {qs : List (List Int)} (h : Dc k p qs) (hk : k ≤ 2 ^ 20) (n : Nat) : PsV (partV n qs) := by
 intro v hv
 obtain ⟨q, hq, m, _, rfl⟩ := partV_mem hv
 have := h.part hq
 exact ⟨tr q, m, rfl, this.1.mono (by omega), by omega⟩
def ThS (T : TypeId) (xs : List V) (S : St) : Prop := ∃ i g : Nat, i ≤ xs.length ∧ S.σ 0 = .p (.sl (some 2) xs) ∧ S.σ 4 = .p (.i .i64 (i : Int)) ∧ S.σ 3 = .own 3 g 0 i ∧ S.h 3 = ⟨g, some (.arr T (some 2) (xs.take i))⟩
def SmP (xs : List V) (S : St) : Prop := ∃ i : Nat, i ≤ xs.length ∧ S.σ 0 = .p (.sl (some 2) xs) ∧ S.σ 1 = .p (.sl (some 2) xs) ∧ S.σ 5 = .p (.i .i64 (i : Int))
theorem Same12 (xs : List V) (hx : PsV xs) (hn : xs.length ≤ 2 ^ 20) : Spec Tryz.prog f_ref12_Same [.sl (some 2) xs, .sl (some 2) xs] (· = [.pure (.b true)]) := by
 refine spec_at Tryz.func40 ok_ref12_Same [] rfl (by simp) ?_
 unfold sc_ref12_Same
 refine Wr ?_; simp
 refine Ws ?_; simp
 refine WS_cF (by simp) ?_
 refine WS_skip ?_; simp
 refine Ws ?_; simp
 refine WS_block ?_
 refine WS_loop (SmP xs) (fun S => xs.length - nM 5 S) ⟨0, by omega, rfl, rfl, rfl⟩ ?_
 rintro S ⟨i, hi, s0, s1, s5⟩
 have d5 := nM_eq s5
 by_cases hlt : i < xs.length
 · have hltI : (i : Int) < (xs.length : Int) := by omega
   obtain ⟨q, m, hq, q1, q2⟩ := hx _ (List.getElem_mem hlt)
   have sa := psame q q1 q2
   have wi := i64_succ i (by omega)
   obtain ⟨W, hW⟩ : ∃ W, W = PZ q := ⟨_, rfl⟩
   rw [← hW] at hq sa
   refine Ws ?_; simp [s0, s1, s5, hlt, hltI, wi, hq]
   refine WS_cT (by simp [s0, s1, s5, hlt, hltI, wi, hq]) ?_
   refine WS_skip ?_; simp [s0, s1, s5, hlt, hltI, wi, hq]
   refine WS_seq (WS_block (WS_seq (WS_regD [] ?_))); simp [s0, s1, s5, hlt, hltI, wi, hq]
   refine callD sa rfl ?_; simp [s0, s1, s5, hlt, hltI, wi, hq]
   refine ⟨rfl, ?_⟩
   refine WS_cF (by simp [s0, s1, s5, hlt, hltI, wi, hq]) ?_
   refine WS_skip ?_; simp [s0, s1, s5, hlt, hltI, wi, hq]
   refine WS_reg [] ?_; simp [s0, s1, s5, hlt, hltI, wi, hq]
   refine ⟨⟨i + 1, by omega, by simp [s0], by simp [s1], by simp⟩, ?_⟩
   show xs.length - nM 5 _ < xs.length - nM 5 S
   rw [d5, nM_eq (i := 5) (n := i + 1) (by simp)]
   omega
 · obtain rfl : i = xs.length := by omega
   have hltI : ¬ (xs.length : Int) < (xs.length : Int) := by omega
   refine Ws ?_; simp [s0, s1, s5, hltI]
   refine WS_cF (by simp [s0, s1, s5, hltI]) ?_
   refine WS_exit ?_; simp [s0, s1, s5, hltI]
   refine Wr ?_; simp [s0, s1, s5, hltI]
   refine WS_ret ?_; simp [s0, s1, s5, hltI]
def exQ : List (List Int) := [[1, 1], [-1, 1]]
theorem exQ_ok : OkL exQ := by
 refine ⟨by decide, ⟨[], [1], 1, by decide, fun x => by simp [deL, addL, evL]⟩, ⟨[1], [-1], 2, by decide, fun x => ?_⟩, by decide, ⟨[], [1], 1, by decide, fun x => by simp [deL, addL, evL]⟩, ⟨[], [1], 1, by decide, fun x => by simp [BL, evL]⟩, trivial⟩
 simp only [BL, evL_mulL, evL]
 omega
theorem exDc : Dc 1 (ppL [2, -2, -2, 2]) exQ := by
 have e : ppL [2, -2, -2, 2] = [1, -1, -1, 1] := by decide
 rw [e]
 refine ⟨pl_small (by decide), by decide, by decide, exQ_ok, fun x => ?_⟩
 simp only [exQ, PL', powL, evL_mulL, evL]
 grind
def chop : List (List Int) → List (List Int)
 | [] => []
 | q :: qs => if chop qs = [] ∧ (tr q).length ≤ 1 then [] else q :: chop qs
theorem chop_ev : ∀ {qs : List (List Int)}, OkL qs → (∀ x, evL x (BL (chop qs)) = evL x (BL qs)) ∧ (∀ w x, evL x (PL' w (chop qs)) = evL x (PL' w qs)) ∧ OkL (chop qs)
 | [], _ => ⟨fun _ => rfl, fun _ _ => rfl, trivial⟩
 | q :: qs, h => by
  obtain ⟨h1, h2, h3⟩ := chop_ev h.2.2.2
  rw [chop]
  split
  · rename_i hc
    have e := co_short h.1 hc.2
    rw [hc.1] at h1 h2
    refine ⟨fun x => ?_, fun w x => ?_, trivial⟩
    · show evL x (BL []) = evL x (mulL q (BL qs))
      rw [evL_mulL, e, ← h1, Int.one_mul]
    · show evL x (PL' w []) = evL x (mulL (powL q w) (PL' (w + 1) qs))
      rw [evL_mulL, ev_pow, e, ← h2, Int.one_pow, Int.one_mul]; rfl
  · refine ⟨fun x => ?_, fun w x => ?_, h.1, h.2.1, ?_, h3⟩
    · simp only [BL, evL_mulL, h1]
    · simp only [PL', evL_mulL, h2]
    · obtain ⟨s, t, k, hk, e⟩ := h.2.2.1
      exact ⟨s, t, k, hk, fun x => by rw [h1]; exact e x⟩
theorem powL_len {q : List Int} (h1 : coL q = 1) (hl : 2 ≤ (tr q).length) : ∀ w, w + 1 ≤ (tr (powL q w)).length
 | 0 => by rw [show tr (powL q 0) = [1] by rw [powL]; decide]; decide
 | w + 1 => by
  have ih := powL_len h1 hl w
  have h2 : coL (powL q w) = 1 := co_pow h1 w
  have e : Eqp (powL q (w + 1)) (mulL (powL q w) q) := eqp_ev fun x => by rw [ev_pow, evL_mulL, ev_pow, Int.pow_succ]
  have := tr_mulL_len (tr_ne_of_co h2) (tr_ne_of_co h1)
  rw [tr_of_eqp e, this]
  omega
theorem chop_len : ∀ {qs : List (List Int)} (w : Nat), OkL qs → chop qs = [] ∨ w + (chop qs).length ≤ (tr (PL' w (chop qs))).length
 | [], w, _ => .inl rfl
 | q :: qs, w, h => by
  obtain ⟨c1, c2, c3⟩ := chop_ev h.2.2.2
  rw [chop]
  split
  · exact .inl rfl
  · rename_i hc
    refine .inr ?_
    have hp := tr_ne_of_co (co_pow h.1 w)
    have hP := tr_ne_of_co (co_PL (w + 1) c3)
    have hl := tr_mulL_len hp hP
    rw [show PL' w (q :: chop qs) = mulL (powL q w) (PL' (w + 1) (chop qs)) from rfl, hl]
    have := List.length_pos_iff.2 hp
    have := List.length_pos_iff.2 hP
    rcases chop_len (w + 1) h.2.2.2 with h0 | h0
    · have h2 : ¬ (tr q).length ≤ 1 := fun h2 => hc ⟨h0, h2⟩
      have := powL_len h.1 (by omega) w
      have h9 := List.length_pos_iff.2 hP
      rw [h0] at h9
      rw [h0, List.length_singleton]
      omega
    · rw [List.length_cons]; omega
theorem dc_ex2 {k : Nat} {a : List Int} (ha : PL k a) (h0 : tr a ≠ []) (hl : (tr a).length ≤ 25) : ∃ qs, Dc k (ppL a) qs ∧ qs.length ≤ 25 := by
 obtain ⟨qs, h⟩ := dc_ex ha h0 hl
 obtain ⟨c1, c2, c3⟩ := chop_ev h.ok
 have hd : Dc k (ppL a) (chop qs) := ⟨h.pl, h.tp, h.lp, c3, fun x => by rw [c2]; exact h.ev x⟩
 refine ⟨_, hd, ?_⟩
 rcases chop_len 1 h.ok with e | e
 · rw [e]; simp
 · have := hd.eq
   rw [← this] at e
   have := h.lp
   omega
theorem wrE_ok {a : List Int} (h : wrE a = 0) : tr a ≠ [] ∧ (tr a).length ≤ 65 := by
 rw [wrE] at h
 split at h
 · cases h
 · rename_i h0
   split at h
   · cases h
   · exact ⟨fun e => h0 (by rw [e]; rfl), by omega⟩
theorem bnd_lim {k : Nat} {a : List Int} (ha : PL k a) (hk : k ≤ 2 ^ 10) (hw : wrE a = 0) : zlen (bndZ (tr a)) ≤ 2 ^ 13 := by
 obtain ⟨h0, hl⟩ := wrE_ok hw
 have hp := sqS_pos h0
 have li := sqS_lim (pl_tr ha) (tr a).length (Nat.le_refl _)
 rw [List.take_length] at li
 have h1 := iroot_le (sqS (tr a) - 1).toNat (show 0 < 2 by omega)
 have h2 : zlen ((iroot (sqS (tr a) - 1).toNat 2 : Nat) : Int) ≤ 4000 := Nat.le_trans (zlen_le (by omega : ((iroot (sqS (tr a) - 1).toNat 2 : Nat) : Int).natAbs ≤ (sqS (tr a) - 1).natAbs)) (by omega)
 have h3 := zlen_add ((iroot (sqS (tr a) - 1).toNat 2 : Nat) : Int) 1
 have h4 : zlen 1 ≤ 1 := by decide
 have h5 := zlen_mul (((iroot (sqS (tr a) - 1).toNat 2 : Nat) : Int) + 1) ((2 ^ ((tr a).length - 1) : Nat) : Int)
 have h6 : zlen ((2 ^ ((tr a).length - 1) : Nat) : Int) ≤ 2 := zlen_two (by omega)
 rw [bndZ, Int.natCast_mul, Int.natCast_add]
 exact Nat.le_trans h5 (by omega)
theorem su_sqS (l : List Int) : ∀ i, i ≤ l.length → su (fun k => cf l k * cf l k) i = sqS (l.take i)
 | 0, _ => by simp [su, sqS]
 | i + 1, h => by rw [sqS_take (by omega), su, su_sqS l i (by omega)]
theorem pl_mulG {j k : Nat} : ∀ (a b : List Int), PL j a → PL k b → PL (j + k + a.length) (mulL a b)
 | [], b, _, _ => fun i => by simp [mulL, cf_nil, zlen_zero]
 | x :: a, b, ha, hb => fun i => by
  have hx : zlen x ≤ j := by have := ha 0; rwa [cf_zero] at this
  have hc : ∀ i, zlen (x * cf b i) ≤ j + k := fun i => by have := zlen_mul x (cf b i); have := hb i; omega
  rw [List.length_cons]
  cases i with
  | zero =>
   rw [cf_mulL_zero]
   have := hc 0
   omega
  | succ i =>
   rw [cf_mulL_succ]
   have h1 := hc (i + 1)
   have h2 := pl_mulG a b (fun i => by have := ha (i + 1); rwa [cf_succ] at this) hb i
   have h3 := zlen_add (x * cf b (i + 1)) (cf (mulL a b) i)
   omega
theorem fac_le {a b : List Int} (hN : (tr (mulL a b)).length ≤ 25) (h0 : tr (mulL a b) ≠ []) (j : Nat) : ((cf a j).natAbs : Int) ≤ bndZ (tr (mulL a b)) := by
 have ha : tr a ≠ [] := fun h => h0 (tr_mulL_nil.2 (.inl h))
 have hb : tr b ≠ [] := fun h => h0 (tr_mulL_nil.2 (.inr h))
 have hl := tr_mulL_len ha hb
 have pa := List.length_pos_iff.2 ha
 have pb := List.length_pos_iff.2 hb
 obtain ⟨p, hp⟩ : ∃ p, p = tr (mulL a b) := ⟨_, rfl⟩
 have e : Eqp (mulL (tr b) (tr a)) p := eqp_ev fun x => by rw [hp, evL_mulL, evL_eqp x (cf_tr a), evL_eqp x (cf_tr b), evL_eqp x (cf_tr _), evL_mulL, Int.mul_comm]
 have fb := fac_bound (a := tr b) (b := tr a) (m := (tr b).length - 1) (n := (tr a).length - 1) (by omega) (by omega) (by omega) (tr_last b hb) j
 rw [su_congr (g := fun k => cf p k * cf p k) (fun i _ => by rw [e i])] at fb
 have hN2 : (tr b).length - 1 + ((tr a).length - 1) = p.length - 1 := by rw [hp]; omega
 have pp : 1 ≤ p.length := by rw [hp]; omega
 have hsq := sqS_pos h0
 rw [← hp] at hsq ⊢
 rw [hN2, show p.length - 1 + 1 = p.length by omega, su_sqS p _ (Nat.le_refl _), List.take_length] at fb
 rw [bndZ]
 obtain ⟨s, hs⟩ := Int.eq_ofNat_of_zero_le (show 0 ≤ sqS p by omega)
 rw [hs] at fb hsq ⊢
 rw [show ((s : Int) - 1).toNat = s - 1 by omega]
 obtain ⟨N, hNe⟩ : ∃ N, N = p.length - 1 := ⟨_, rfl⟩
 rw [← hNe] at fb ⊢
 have hr := (iroot_facts (s - 1) (show 0 < 2 by omega)).2
 obtain ⟨r, hre⟩ : ∃ r, r = iroot (s - 1) 2 := ⟨_, rfl⟩
 rw [← hre, Nat.pow_two] at hr
 rw [← hre]
 have hc := Int.natAbs_mul_self (a := cf (tr a) j)
 rw [← hc] at fb
 rw [← cf_tr a j]
 obtain ⟨c, hce⟩ : ∃ c, c = (cf (tr a) j).natAbs := ⟨_, rfl⟩
 rw [← hce] at fb ⊢
 have fb2 : c * c ≤ 4 ^ N * s := by
  have e4 : ((4 : Int) ^ N) * (s : Int) = ((4 ^ N * s : Nat) : Int) := by rw [Int.natCast_mul, Int.natCast_pow]; rfl
  rw [e4] at fb
  exact Int.ofNat_le.1 fb
 have h3 : 4 ^ N * s ≤ 4 ^ N * ((r + 1) * (r + 1)) := Nat.mul_le_mul_left _ (by omega)
 have h4 : 4 ^ N * ((r + 1) * (r + 1)) = ((r + 1) * 2 ^ N) * ((r + 1) * 2 ^ N) := by
  rw [show (4 : Nat) = 2 * 2 from rfl, Nat.mul_pow]
  grind
 have h5 : c ≤ (r + 1) * 2 ^ N := Nat.mul_self_le_mul_self_iff.1 (by omega)
 exact Int.ofNat_le.2 h5
def BnS (A : List V) (m : Int) (S : St) : Prop := ∃ i : Nat, i ≤ A.length ∧ S.σ 0 = .p (.sl (some 2) A) ∧ S.σ 5 = .p (.b true) ∧ S.σ 8 = .p (.i .i64 (i : Int)) ∧ S.σ 6 = .ptr 6 1 0 ∧ S.h 6 = ⟨1, some (.box 28 [.b (zn m), .sl none (uL (zl m))])⟩
def told : Nat → List (List Int) → List (List Int × Nat)
 | _, [] => []
 | n, q :: qs => if 2 ≤ (tr q).length then (tr q, n) :: told (n + 1) qs else told (n + 1) qs
def tV (p : List Int × Nat) : V := .agg [.sl (some 2) (PZ p.1), .i .i64 (p.2 : Int)]
theorem partV_told : ∀ (qs : List (List Int)) (n : Nat), partV n qs = (told n qs).map tV
 | [], n => rfl
 | q :: qs, n => by
  rw [partV, told, partV_told qs (n + 1)]
  split <;> rfl
theorem told_mem : ∀ {qs : List (List Int)} {n : Nat} {p : List Int × Nat}, p ∈ told n qs → n ≤ p.2 ∧ ∃ q ∈ qs, p.1 = tr q ∧ 2 ≤ (tr q).length
 | q :: qs, n, p, h => by
  rw [told] at h
  split at h
  · rename_i hl
    rcases List.mem_cons.1 h with h | h
    · subst h
      exact ⟨Nat.le_refl _, q, by simp, rfl, hl⟩
    · obtain ⟨h1, q', h2, h3⟩ := told_mem h
      exact ⟨by omega, q', by simp [h2], h3⟩
  · obtain ⟨h1, q', h2, h3⟩ := told_mem h
    exact ⟨by omega, q', by simp [h2], h3⟩
theorem told_rise : ∀ (qs : List (List Int)) (n : Nat), (told n qs).Pairwise fun p q => p.2 < q.2
 | [], n => by simp [told]
 | q :: qs, n => by
  rw [told]
  split
  · refine List.pairwise_cons.2 ⟨fun p hp => ?_, told_rise qs (n + 1)⟩
    have := (told_mem hp).1
    show n < p.2
    omega
  · exact told_rise qs (n + 1)
def tP : List (List Int × Nat) → List Int
 | [] => [1]
 | p :: l => mulL (powL p.1 p.2) (tP l)
theorem tP_ev : ∀ (qs : List (List Int)) (n : Nat), OkL qs → ∀ x, evL x (tP (told n qs)) = evL x (PL' n qs)
 | [], n, _, x => rfl
 | q :: qs, n, h, x => by
  rw [show PL' n (q :: qs) = mulL (powL q n) (PL' (n + 1) qs) from rfl, evL_mulL, ev_pow, ← tP_ev qs (n + 1) h.2.2.2 x, told]
  split
  · rw [tP, evL_mulL, ev_pow, evL_eqp x (cf_tr q)]
  · rename_i hl
    rw [co_short h.1 (by omega) x, Int.one_pow, Int.one_mul]
theorem tP_app : ∀ (l1 l2 : List (List Int × Nat)) (x : Int), evL x (tP (l1 ++ l2)) = evL x (tP l1) * evL x (tP l2)
 | [], l2, x => by rw [List.nil_append, show tP [] = [1] from rfl, ev_one, Int.one_mul]
 | p :: l1, l2, x => by rw [List.cons_append, tP, tP, evL_mulL, evL_mulL, tP_app l1 l2 x]; grind
theorem told_co {qs : List (List Int)} : ∀ {n : Nat}, OkL qs → ∀ p ∈ told n qs, coL p.1 = 1 := by
 intro n h p hp
 obtain ⟨_, q, hq, e, _⟩ := told_mem hp
 obtain ⟨pre, rest, rfl⟩ := List.append_of_mem hq
 rw [e, coL_eqp (cf_tr q)]
 exact (OkL.last h).1
def PrS (X : List V) (L : List (List Int × Nat)) (A : List V) (a : List Int) (S : St) : Prop := ∃ (i : Nat) (o : List Int), i ≤ L.length ∧ tr o = o ∧ (∀ x, evL x a = evL x (tP (L.drop i)) * evL x o) ∧ S.σ 0 = .p (.sl (some 2) A) ∧ S.σ 3 = .p (.b true) ∧
 S.σ 4 = .p (.sl (some 2) X) ∧ S.σ 6 = .p (.sl (some 2) (PZ o)) ∧ S.σ 7 = .p (.i .i64 (i : Int))
def PrJ (X : List V) (L : List (List Int × Nat)) (A : List V) (a : List Int) (i : Nat) (q : List Int) (m : Nat) (S : St) : Prop := ∃ (k : Nat) (o : List Int), k ≤ m ∧ tr o = o ∧ (∀ x, evL x a = evL x q ^ (m - k) * evL x (tP (L.drop (i + 1))) * evL x o) ∧ S.σ 0 = .p (.sl (some 2) A) ∧ S.σ 3 = .p (.b true) ∧
 S.σ 4 = .p (.sl (some 2) X) ∧ S.σ 6 = .p (.sl (some 2) (PZ o)) ∧ S.σ 7 = .p (.i .i64 (i : Int)) ∧ S.σ 8 = .p (.i .i64 (k : Int))
theorem BL_mem {q : List Int} : ∀ {qs : List (List Int)}, q ∈ qs → ∃ d, ∀ x, evL x (BL qs) = evL x d * evL x q
 | p :: qs, h => by
  rcases List.mem_cons.1 h with h | h
  · subst h
    exact ⟨BL qs, fun x => by simp only [BL, evL_mulL]; grind⟩
  · obtain ⟨d, hd⟩ := BL_mem h
    exact ⟨mulL p d, fun x => by simp only [BL, evL_mulL, hd]; grind⟩
theorem told_cop : ∀ (qs : List (List Int)) (n : Nat), OkL qs → (told n qs).Pairwise fun p p' => Cop p.1 p'.1
 | [], n, _ => by simp [told]
 | q :: qs, n, h => by
  rw [told]
  split
  · refine List.pairwise_cons.2 ⟨fun p hp => ?_, told_cop qs (n + 1) h.2.2.2⟩
    obtain ⟨_, q', hq', e, _⟩ := told_mem hp
    obtain ⟨d, hd⟩ := BL_mem hq'
    obtain ⟨s, t, k, hk, hc⟩ := h.2.2.1
    refine ⟨s, mulL t d, k, hk, fun x => ?_⟩
    have := hc x
    rw [hd] at this
    show evL x s * evL x (tr q) + evL x (mulL t d) * evL x p.1 = k
    rw [e, evL_eqp x (cf_tr q), evL_eqp x (cf_tr q'), evL_mulL]
    grind
  · exact told_cop qs (n + 1) h.2.2.2
theorem OkL.sq {qs : List (List Int)} {q : List Int} (h : OkL qs) (hq : q ∈ qs) : coL (tr q) = 1 ∧ Cop (tr q) (deL (tr q)) := by
 obtain ⟨pre, rest, rfl⟩ := List.append_of_mem hq
 have h := OkL.last h
 refine ⟨by rw [coL_eqp (cf_tr q)]; exact h.1, ?_⟩
 obtain ⟨s, t, k, hk, hc⟩ := h.2.1
 exact ⟨s, t, k, hk, fun x => by rw [evL_eqp x (cf_tr q), evL_eqp x (deL_eqp (cf_tr q))]; exact hc x⟩
theorem dc_one {k : Nat} {q : List Int} (hp : PL k q) (tq : tr q = q) (hl : q.length ≤ 25) (h1 : coL q = 1) (h2 : Cop q (deL q)) : Dc k (ppL q) [q] ∧ ppL q = q ∧ tr (EL 0 [q]) = [1] := by
 have e : ppL q = q := by rw [ppL_of_co h1, tq]
 refine ⟨⟨by rw [e]; exact hp, by rw [e]; exact tq, by rw [e]; exact hl, ⟨h1, h2, ⟨[], [1], 1, by decide, fun x => by simp [BL, evL]⟩, trivial⟩, fun x => ?_⟩, e, ?_⟩
 · rw [e]; simp only [PL', evL_mulL, ev_pow, ev_one, Int.pow_succ, Int.pow_zero]; grind
 · have : Eqp (EL 0 [q]) [1] := eqp_ev fun x => by simp only [EL, evL_mulL, ev_pow, ev_one, Int.pow_zero]; grind
   rw [tr_of_eqp this]; decide
theorem gd_cop {a b : List Int} (hc : Cop a b) (h1 : coL a = 1) : tr (gdZ a b) = [1] := by
 rw [tr_of_eqp (gd_of (A := a) (B := b) (G := [1]) (fun x => by rw [ev_one, Int.mul_one]) (fun x => by rw [ev_one, Int.mul_one]) hc h1 (by decide))]
 decide
def ApS (X : List V) (n : Nat) (S : St) : Prop := ∃ i : Nat, i ≤ n ∧ S.σ 3 = .p (.b true) ∧ S.σ 4 = .p (.sl (some 2) X) ∧ S.σ 6 = .p (.i .i64 (i : Int))
def ApJ (X W : List V) (i : Nat) (S : St) : Prop := ∃ k : Nat, k ≤ i ∧ S.σ 3 = .p (.b true) ∧ S.σ 4 = .p (.sl (some 2) X) ∧ S.σ 6 = .p (.i .i64 (i : Int)) ∧ S.σ 7 = .p (.sl (some 2) W) ∧ S.σ 10 = .p (.i .i64 (k : Int))
theorem PLr (x : Int) (l : List (List Int)) : ∀ j w, evL x (PL' w (List.replicate j [1] ++ l)) = evL x (PL' (w + j) l)
 | 0, w => rfl
 | j + 1, w => by
  rw [List.replicate_succ, List.cons_append, PL', evL_mulL, ev_pow, ev_one, Int.one_pow, Int.one_mul, PLr x l j (w + 1), show w + 1 + j = w + (j + 1) by omega]
theorem BLr (x : Int) (l : List (List Int)) : ∀ j, evL x (BL (List.replicate j [1] ++ l)) = evL x (BL l)
 | 0 => rfl
 | j + 1 => by rw [List.replicate_succ, List.cons_append, BL, evL_mulL, ev_one, Int.one_mul, BLr x l j]
theorem OkLr {l : List (List Int)} (h : OkL l) : ∀ j, OkL (List.replicate j [1] ++ l)
 | 0 => h
 | j + 1 => ⟨co_1, ⟨[1], [], 1, by decide, fun x => by simp [evL]⟩, ⟨[1], [], 1, by decide, fun x => by simp [evL]⟩, OkLr h j⟩
theorem toldr (l : List (List Int)) : ∀ j n, told n (List.replicate j [1] ++ l) = told (n + j) l
 | 0, n => rfl
 | j + 1, n => by
  rw [List.replicate_succ, List.cons_append, told, if_neg (by decide), toldr l j (n + 1), show n + 1 + j = n + (j + 1) by omega]
def spr (j : Nat) : List (List Int) → List (List Int)
 | [] => []
 | q :: qs => List.replicate j [1] ++ q :: spr j qs
theorem spr_ev (x : Int) (j : Nat) : ∀ (qs : List (List Int)) (w : Nat), evL x (PL' ((j + 1) * w + 1) (spr j qs)) = evL x (PL' (w + 1) qs) ^ (j + 1)
 | [], w => by simp only [spr, PL', ev_one, Int.one_pow]
 | q :: qs, w => by
  have e : (j + 1) * w + 1 + j = (j + 1) * (w + 1) := by rw [Nat.mul_succ]; omega
  rw [spr, PLr, e, PL', evL_mulL, ev_pow, spr_ev x j qs (w + 1), PL', evL_mulL, ev_pow, Int.mul_pow, ← Int.pow_mul, Nat.mul_comm (w + 1)]
theorem spr_B (x : Int) (j : Nat) : ∀ qs : List (List Int), evL x (BL (spr j qs)) = evL x (BL qs)
 | [] => rfl
 | q :: qs => by rw [spr, BLr, BL, evL_mulL, spr_B x j qs, BL, evL_mulL]
theorem spr_ok (j : Nat) : ∀ {qs : List (List Int)}, OkL qs → OkL (spr j qs)
 | [], _ => trivial
 | q :: qs, h => by
  refine OkLr (l := q :: spr j qs) ⟨h.1, h.2.1, ?_, spr_ok j h.2.2.2⟩ j
  obtain ⟨s, t, k, hk, e⟩ := h.2.2.1
  exact ⟨s, t, k, hk, fun x => by rw [spr_B]; exact e x⟩
theorem spr_len (j : Nat) : ∀ qs : List (List Int), (spr j qs).length = (j + 1) * qs.length
 | [] => rfl
 | q :: qs => by rw [spr, List.length_append, List.length_replicate, List.length_cons, spr_len j qs, List.length_cons, Nat.mul_succ]; omega
theorem spr_told (j : Nat) : ∀ (qs : List (List Int)) (w : Nat), told ((j + 1) * w + 1) (spr j qs) = (told (w + 1) qs).map fun p => (p.1, (j + 1) * p.2)
 | [], w => rfl
 | q :: qs, w => by
  have e : (j + 1) * w + 1 + j = (j + 1) * (w + 1) := by rw [Nat.mul_succ]; omega
  rw [spr, toldr, e, told, told, spr_told j qs (w + 1)]
  split <;> rfl
theorem told_lt : ∀ {qs : List (List Int)} {n : Nat} {p : List Int × Nat}, p ∈ told n qs → p.2 < n + qs.length
 | q :: qs, n, p, h => by
  rw [List.length_cons]
  rw [told] at h
  split at h
  · rcases List.mem_cons.1 h with h | h
    · subst h; show n < _; omega
    · have := told_lt h; omega
  · have := told_lt h; omega
theorem pp_scaled {b P : List Int} {d : Int} (hd : d ≠ 0) (h : ∀ x, evL x b = d * evL x P) (h1 : coL P = 1) : ppL b = tr P ∧ tr b ≠ [] := by
 have e : Eqp b (scL d P) := eqp_ev fun x => by rw [h, evL_scL]
 have e2 : Eqp b (mulL [d] P) := eqp_ev fun x => by rw [h, evL_mulL]; simp [evL]
 have hc : coL b = d := by rw [coL_eqp e2, coL_mul, coL_single, h1, Int.mul_one]
 refine ⟨?_, fun h0 => hd (by rw [← hc]; exact coL_zero.2 h0)⟩
 have e3 : Eqp (ppL b) P := fun i => by rw [cf_ppL, hc, e i, cf_scL, Int.mul_ediv_cancel_left _ hd]
 rw [← tr_ppL, tr_of_eqp e3]
theorem cf_mul_limG {j k : Nat} : ∀ (a b : List Int), PL j a → PL k b → ∀ i, (cf (mulL a b) i).natAbs ≤ a.length * (18446744073709551616 ^ j * 18446744073709551616 ^ k)
 | [], b, _, _, i => by simp [mulL, cf_nil]
 | x :: a, b, ha, hb, i => by
  have hx : x.natAbs ≤ 18446744073709551616 ^ j := by
   have h2 := ha 0
   rw [cf_zero] at h2
   exact Nat.le_of_lt (lt_zlen' h2)
  have hc : ∀ i, (x * cf b i).natAbs ≤ 18446744073709551616 ^ j * 18446744073709551616 ^ k := fun i => by
   rw [Int.natAbs_mul]
   exact Nat.mul_le_mul hx (Nat.le_of_lt (lt_zlen' (hb i)))
  rw [List.length_cons, Nat.add_mul, Nat.one_mul]
  cases i with
  | zero =>
   rw [cf_mulL_zero]
   have := hc 0
   omega
  | succ i =>
   rw [cf_mulL_succ]
   have h1 := hc (i + 1)
   have h2 := cf_mul_limG a b (fun i => by have := ha (i + 1); rwa [cf_succ] at this) hb i
   have h3 := Int.natAbs_add_le (x * cf b (i + 1)) (cf (mulL a b) i)
   omega
theorem pl_mulT {j k : Nat} {a b : List Int} (ha : PL j a) (hb : PL k b) (hl : a.length ≤ 2 ^ 60) : PL (j + k + 1) (mulL a b) := fun i => by
 refine zlen_lt (Nat.lt_of_le_of_lt (cf_mul_limG a b ha hb i) ?_)
 rw [Nat.pow_succ, Nat.pow_add, Nat.mul_comm]
 exact Nat.mul_lt_mul_of_pos_left (by omega) (Nat.mul_pos (Nat.pow_pos (by omega)) (Nat.pow_pos (by omega)))
theorem abin_and3 (a : Int) : abin .and (.i .i64 a) (.i .i64 3) = some (True, .i .i64 (a % 4)) := abin_low a 2 3 (by omega) rfl
theorem dc_pow {k K j : Nat} {a b : List Int} {qs : List (List Int)} (hd : Dc k (ppL a) qs) (h0 : tr a ≠ []) (hb : PL K b) (lb : b.length ≤ 25) (he : ∀ x, evL x b = evL x a ^ (j + 1)) : Dc K (ppL b) (spr j qs) ∧ tr b ≠ [] := by
 have hc0 : coL a ≠ 0 := fun h => h0 (coL_zero.1 h)
 have hP := co_PL 1 (spr_ok j hd.ok)
 have e1 := fun x => spr_ev x j qs 0
 simp only [Nat.mul_zero, Nat.zero_add] at e1
 have hev : ∀ x, evL x b = coL a ^ (j + 1) * evL x (PL' 1 (spr j qs)) := fun x => by
  rw [he, e1, ← hd.ev, ← Int.mul_pow, ← evL_scL, ← evL_eqp x (ppL_mul a)]
 obtain ⟨p1, p2⟩ := pp_scaled (Int.pow_ne_zero hc0) hev hP
 refine ⟨⟨pl_pp hb, tr_ppL b, ?_, spr_ok j hd.ok, fun x => by rw [p1, evL_eqp x (cf_tr _)]⟩, p2⟩
 rw [ppL_len']
 have := tr_len b
 omega
def PwS (A : List V) (a : List Int) (k : Nat) (S : St) : Prop := ∃ (i : Nat) (b : List Int), i ≤ k ∧ (∀ x, evL x b = evL x a ^ i) ∧ PL (2 * i + 1) b ∧ b.length ≤ 5 * i + 1 ∧ S.σ 0 = .p (.sl (some 2) A) ∧ S.σ 5 = .p (.b true) ∧
 S.σ 6 = .p (.i .i64 (k : Int)) ∧ S.σ 7 = .p (.sl (some 2) (PZ b)) ∧ S.σ 8 = .p (.i .i64 (i : Int))
def PwJ (X Y : List V) (R : List V) (n k : Nat) (S : St) : Prop := ∃ i : Nat, i ≤ n ∧ S.σ 5 = .p (.b true) ∧ S.σ 6 = .p (.i .i64 (k : Int)) ∧ S.σ 9 = .p (.sl (some 2) X) ∧ S.σ 11 = .p (.sl (some 2) Y) ∧
 S.σ 13 = .p (.sl (some 2) R) ∧ S.σ 15 = .p (.sl (some 2) R) ∧ S.σ 14 = .p (.i .i64 0) ∧ S.σ 16 = .p (.i .i64 0) ∧ S.σ 17 = .p (.i .i64 (i : Int))
end Go.Vw
