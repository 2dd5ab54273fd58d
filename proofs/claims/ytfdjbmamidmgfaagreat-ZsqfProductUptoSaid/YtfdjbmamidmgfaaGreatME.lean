/- Integers: common divisors, powers, roots. -/
import Derived.Test.YtfdjbmamidmgfaaGreatMD
import Derived.Test.YtfdjbmamidmgfaaGreatMB
import Derived.Test.YtfdjbmamidmgfaaGreatMA
set_option linter.unusedVariables false
set_option linter.unusedSimpArgs false
namespace Go.Vw
open Go.Proofs
def vM (xs : List V) : Nat := Nm.val 18446744073709551616 (xs.map fun | .i _ n => n.toNat | _ => 0)
theorem vM_eq (l : List Nat) : vM (uL l) = Nm.val 18446744073709551616 l := by
 simp only [vM, uL, List.map_map]
 congr 1
 have : ((fun | V.i _ n => n.toNat | _ => 0) ∘ fun x : Nat => V.i .u64 (x : Int)) = id := by funext x; simp
 rw [this, List.map_id]
def slM (i : Nat) (S : St) : Nat := match S.σ i with | .p (.sl _ xs) => vM xs | _ => 0
def bxM (i : Nat) (S : St) : Nat := match (S.h i).o with | some (.box _ [_, .sl _ xs]) => vM xs | _ => 0
theorem slM_eq {i : Nat} {S : St} {l : List Nat} (h : S.σ i = .p (U l)) : slM i S = Nm.val 18446744073709551616 l := by simp only [slM, h, U, vM_eq]
theorem bxM_eq {i g t : Nat} {S : St} {n : V} {l : List Nat} (h : S.h i = ⟨g, some (.box t [n, .sl none (uL l)])⟩) : bxM i S = Nm.val 18446744073709551616 l := by simp only [bxM, h, vM_eq]
def GcdZ (g K : Nat) (S : St) : Prop := ∃ x y : Nat, S.σ 5 = .p (U (Nm.dig 18446744073709551616 x)) ∧ S.σ 6 = .p (U (Nm.dig 18446744073709551616 y)) ∧ x < 18446744073709551616 ^ K ∧ y < 18446744073709551616 ^ K ∧ Nat.gcd x y = g ∧
 S.σ 4 = .ptr 4 1 0 ∧ S.h 4 = ⟨1, some (.box 28 [.b false, .sl none []])⟩
theorem gcd_step {x y g : Nat} (h : Nat.gcd x y = g) : Nat.gcd y (x % y) = g := by
 rw [← h, Nat.gcd_comm x y, Nat.gcd_comm y (x % y)]
 exact (Nat.gcd_rec y x).symm
attribute [local simp] zv V.fits fillOk fillV Z_eq
theorem zgcd {k : Nat} {v w : V} {x y : Int} (hv : IsZ k v x) (hw : IsZ k w y) (hk : k ≤ 2 ^ 33) : Spec Tryz.prog f_zint_Gcd [v, w] (· = [.pure (Z (Int.gcd x y : Int))]) := by
 obtain ⟨n1, l1, rfl, h1, rfl⟩ := hv
 obtain ⟨n2, l2, rfl, h2, rfl⟩ := hw
 have c1 := h1.len
 have c2 := h2.len
 have m1 := nnorm_spec l1 (by omega)
 have m2 := nnorm_spec l2 (by omega)
 rw [← Nm.dig_val (by omega) h1.dl] at m1
 rw [← Nm.dig_val (by omega) h2.dl] at m2
 have v1 := lt_zlen' (isZ_zv (n := n1) h1).zlen
 have v2 := lt_zlen' (isZ_zv (n := n2) h2).zlen
 have eg : Int.gcd (zi n1 l1) (zi n2 l2) = Nat.gcd (Nm.val 18446744073709551616 l1) (Nm.val 18446744073709551616 l2) := by rw [Int.gcd, zi_abs, zi_abs]
 rw [zi_abs] at v1 v2
 obtain ⟨g, hg⟩ : ∃ g, g = Int.gcd (zi n1 l1) (zi n2 l2) := ⟨_, rfl⟩
 rw [← hg] at eg ⊢
 obtain ⟨a, ha⟩ : ∃ a, a = Nm.val 18446744073709551616 l1 := ⟨_, rfl⟩
 obtain ⟨b, hb⟩ : ∃ a, a = Nm.val 18446744073709551616 l2 := ⟨_, rfl⟩
 rw [← ha] at m1 v1 eg
 rw [← hb] at m2 v2 eg
 refine spec_at Tryz.func74 ok_zint_Gcd [] rfl (by simp) ?_
 unfold sc_zint_Gcd
 refine Wr ?_; simp
 refine WS_seq (WS_regD [] ?_); simp
 refine callD m1 rfl ?_; simp
 refine callD m2 rfl ?_; simp
 refine ⟨rfl, ?_⟩
 refine WS_seq (WS_block ?_)
 refine WS_loop (GcdZ g k) (slM 6) ⟨a, b, rfl, rfl, v1, v2, eg.symm, rfl, rfl⟩ ?_
 rintro S ⟨x, y, s5, s6, hx, hy, hxy, s4, h4⟩
 have dx := slM_eq s6
 rw [Nm.val_dig (by omega)] at dx
 have lx := Nm.dig_length_le (B := 18446744073709551616) (by omega) hx
 have ly := Nm.dig_length_le (B := 18446744073709551616) (by omega) hy
 by_cases h0 : y = 0
 · subst h0
   rw [Nat.gcd_zero_right] at hxy
   subst hxy
   have mk := made_spec false (Nm.dig 18446744073709551616 x) ⟨Nm.dig_lt (by omega) _, by omega⟩
   have e : zi false (Nm.dig 18446744073709551616 x) = (x : Int) := by simp [zi, Nm.val_dig]
   rw [e] at mk
   refine Ws ?_; simp [s5, s6, s4, h4, U, Nm.dig_zero]
   refine WS_cF (by simp [s5, s6, s4, h4, U, Nm.dig_zero]) ?_
   refine WS_exit ?_; simp [s5, s6, s4, h4, U, Nm.dig_zero]
   refine Wr ?_; simp [s5, s6, s4, h4, U, Nm.dig_zero]
   refine callK mk ?_; simp [s5, s6, s4, h4, U, Nm.dig_zero]
   refine WS_ret ?_; simp [s5, s6, s4, h4, U, Nm.dig_zero]
 · have dv := ndiv_spec (Nm.dig 18446744073709551616 x) (Nm.dig 18446744073709551616 y) (Nm.dig_lt (by omega) _) (Nm.dig_lt (by omega) _) (by omega) (by omega) (by rw [Nm.val_dig (by omega)]; exact h0)
   rw [Nm.val_dig (by omega), Nm.val_dig (by omega)] at dv
   have hp := Nm.dig_length_pos (B := 18446744073709551616) (by omega) h0
   have hr := Nat.mod_lt x (show 0 < y by omega)
   refine Ws ?_; simp [s5, s6, s4, h4, U, hp]
   refine WS_cT (by simp [s5, s6, s4, h4, U, hp]) ?_
   refine WS_skip ?_; simp [s5, s6, s4, h4, U, hp]
   refine WS_block (Wr ?_); simp [s5, s6, s4, h4, U, hp]
   refine callK dv ?_; simp [s5, s6, s4, h4, U, hp]
   refine WS_reg [] ?_; simp [s5, s6, s4, h4, U, hp]
   refine ⟨⟨y, x % y, by simp [s6, U], by simp [U], hy, by omega, gcd_step hxy, by simp [s4], by simp [h4]⟩, ?_⟩
   rw [dx, slM_eq (l := Nm.dig 18446744073709551616 (x % y)) (by simp [U]), Nm.val_dig (by omega)]
   exact hr
structure L3 (K : Nat) (x : Int × Int × Int) : Prop where
 g : zlen x.1 ≤ K
 s : zlen x.2.1 ≤ K
 t : zlen x.2.2 ≤ K
theorem gcd_len {x y : Int} {k : Nat} (hx : zlen x ≤ k) (hy : zlen y ≤ k) : zlen (Int.gcd x y : Int) ≤ k := by
 by_cases h0 : x = 0
 · subst h0; rw [Int.gcd_zero_left]; exact Nat.le_trans (zlen_le (by simp)) hy
 · have := Int.gcd_le_natAbs_left (b := y) h0
   exact Nat.le_trans (zlen_le (by simpa using this)) hx
theorem abin_low (a : Int) (k : Nat) (c : Int) (hk : k < 63) (hc : c = ((2 ^ k - 1 : Nat) : Int)) : abin .and (.i .i64 a) (.i .i64 c) = some (True, .i .i64 (a % (2 ^ k : Nat))) := by
 subst hc
 show some (IntKind.i64 = IntKind.i64, V.i .i64 (IntKind.i64.wrap (((BitVec.ofInt 64 a &&& BitVec.ofInt 64 ((2 ^ k - 1 : Nat) : Int)).toNat : Nat) : Int))) = _
 have hp : (2 : Nat) ^ k < 2 ^ 63 := Nat.pow_lt_pow_right (by omega) hk
 have hp0 := Nat.two_pow_pos k
 have e : (BitVec.ofInt 64 a &&& BitVec.ofInt 64 ((2 ^ k - 1 : Nat) : Int)).toNat = (a % 18446744073709551616).toNat % 2 ^ k := by
  rw [BitVec.toNat_and, BitVec.toNat_ofInt, BitVec.toNat_ofInt]
  have : ((((2 ^ k - 1 : Nat) : Int)) % ((2 ^ 64 : Nat) : Int)).toNat = 2 ^ k - 1 := by omega
  rw [this, Nat.and_two_pow_sub_one_eq_mod]
  rfl
 rw [e]
 have hm := Nat.mod_lt (a % 18446744073709551616).toNat hp0
 have hd : ((2 ^ k : Nat) : Int) ∣ 18446744073709551616 := by
  rw [show (18446744073709551616 : Int) = ((2 ^ 64 : Nat) : Int) by rfl]
  exact Int.natCast_dvd_natCast.2 (Nat.pow_dvd_pow 2 (by omega))
 have e2 : (((a % 18446744073709551616).toNat % 2 ^ k : Nat) : Int) = a % (2 ^ k : Nat) := by
  rw [Int.natCast_emod, Int.toNat_of_nonneg (by omega), Int.emod_emod_of_dvd a hd]
 rw [i64_nat _ (by omega), e2]
 simp
def nM (i : Nat) (S : St) : Nat := match S.σ i with | .p (.i _ n) => n.toNat | _ => 0
theorem nM_eq {i : Nat} {S : St} {n : Nat} (h : S.σ i = .p (.i .i64 (n : Int))) : nM i S = n := by simp only [nM, h]; omega
def irt (X k : Nat) : Nat → Nat
 | 0 => 0
 | n + 1 => if (n + 1) ^ k ≤ X then n + 1 else irt X k n
def iroot (X k : Nat) : Nat := irt X k X
theorem irt_le {X k : Nat} (hk : 0 < k) : ∀ n, (irt X k n) ^ k ≤ X := by
 intro n
 induction n with
 | zero => rw [irt, Nat.zero_pow hk]; omega
 | succ n ih =>
  rw [irt]
  split
  · assumption
  · exact ih
theorem irt_gt {X k : Nat} : ∀ n m, irt X k n < m → m ≤ n → X < m ^ k := by
 intro n
 induction n with
 | zero => intro m h1 h2; omega
 | succ n ih =>
  intro m h1 h2
  rw [irt] at h1
  split at h1
  · omega
  · rcases Nat.lt_or_ge n m with h | h
    · obtain rfl : m = n + 1 := by omega
      omega
    · exact ih m h1 h
theorem iroot_facts (X : Nat) {k : Nat} (hk : 0 < k) : (iroot X k) ^ k ≤ X ∧ X < (iroot X k + 1) ^ k := by
 refine ⟨irt_le hk X, ?_⟩
 rcases Nat.lt_or_ge X (iroot X k + 1) with h | h
 · exact Nat.lt_of_lt_of_le h (Nat.le_self_pow (by omega) _)
 · exact irt_gt X _ (by rw [iroot]; omega) h
theorem iroot_of {X k r : Nat} (h1 : r ^ k ≤ X) (h2 : X < (r + 1) ^ k) (hk : 0 < k) : r = iroot X k := by
 obtain ⟨f1, f2⟩ := iroot_facts X hk
 rcases Nat.lt_trichotomy r (iroot X k) with h | h | h
 · have := Nat.pow_le_pow_left (show r + 1 ≤ iroot X k by omega) k
   omega
 · exact h
 · have := Nat.pow_le_pow_left (show iroot X k + 1 ≤ r by omega) k
   omega
def rootR (x n : Int) : List RV := if n < 1 ∨ 64 < n ∨ x < 0 then [.pure (Z 0), .pure (.i .i64 1)] else [.pure (Z (iroot x.toNat n.toNat : Int)), .pure (.i .i64 0)]
theorem zlen_pow (m : Int) (j : Nat) : zlen (m ^ j) ≤ j * zlen m + 1 := by
 induction j with
 | zero => rw [Int.pow_zero]; have := zlen_one; omega
 | succ j ih =>
  rw [Int.pow_succ, Nat.succ_mul]
  have := zlen_mul (m ^ j) m
  omega
theorem zlen_two {i k : Nat} (h : i < 64 * k) : zlen ((2 ^ i : Nat) : Int) ≤ k := by
 apply zlen_lt
 rw [Int.natAbs_natCast, show (18446744073709551616 : Nat) = 2 ^ 64 by rfl, ← Nat.pow_mul]
 exact Nat.pow_lt_pow_right (by omega) h
def RtJ (K : St → Prop) (si sk : Nat) (m : Int) (k : Nat) (S : St) : Prop := ∃ i g10 g11 : Nat, S.σ si = .p (.i .i64 (i : Int)) ∧ S.σ sk = .p (.i .i64 (k : Int)) ∧ i ≤ k ∧ S.σ 10 = .ptr 10 g10 0 ∧ S.h 10 = ⟨g10, some (.box 28 [.b (zn m), .sl none (uL (zl m))])⟩ ∧
 S.σ 11 = .ptr 11 g11 0 ∧ S.h 11 = ⟨g11, some (.box 28 [.b (zn (m ^ i)), .sl none (uL (zl (m ^ i)))])⟩ ∧ K S
def RtZK (s : Bool) (l : List Nat) (a b : Int) (k : Nat) (S : St) : Prop := S.σ 1 = .p (.i .i64 (k : Int)) ∧ S.σ 2 = .ptr 2 1 0 ∧ S.h 2 = ⟨1, some (.box 28 [.b s, .sl none (uL l)])⟩ ∧ S.σ 4 = .ptr 4 1 0 ∧ S.h 4 = ⟨1, some (.box 28 [.b false, .sl none []])⟩ ∧
 S.σ 6 = .ptr 6 1 0 ∧ S.h 6 = ⟨1, some (.box 28 [.b (zn a), .sl none (uL (zl a))])⟩ ∧ S.σ 9 = .ptr 9 1 0 ∧ S.h 9 = ⟨1, some (.box 28 [.b (zn b), .sl none (uL (zl b))])⟩
def RtZ (s : Bool) (l : List Nat) (X k K : Nat) (S : St) : Prop := ∃ a b : Nat, a < b ∧ a ^ k ≤ X ∧ X < b ^ k ∧ zlen (b : Int) ≤ K ∧ RtZK s l (a : Int) (b : Int) k S
set_option maxHeartbeats 1000000 in
theorem zroot {K : Nat} {v : V} {x : Int} (hv : IsZ K v x) (hK : K ≤ 4000) (n : Int) (hn1 : -9223372036854775808 ≤ n) (hn2 : n ≤ 9223372036854775807) :
 Spec Tryz.prog f_zint_Root [v, .i .i64 n] (· = rootR x n) := by
 have sg := zsign hv (by omega)
 have o0 := zof 0 (by omega) (by omega)
 have o1 := zof 1 (by omega) (by omega)
 have q := hv.zlen
 have hv2 := hv
 obtain ⟨s, l, rfl, h, rfl⟩ := hv
 have bs := nbits_spec l h.dl (by have := h.len; omega)
 have e : Nm.val 18446744073709551616 l = (zi s l).natAbs := (zi_abs s l).symm
 rw [e] at bs
 obtain ⟨x, hx⟩ : ∃ x, x = zi s l := ⟨_, rfl⟩
 rw [← hx] at bs sg q hv2 ⊢
 have hb : bl x.natAbs ≤ 64 * K := bl_le (by rw [Nat.pow_mul]; exact lt_zlen' q)
 refine spec_at Tryz.func83 ok_zint_Root [] rfl (by simp) ?_
 unfold sc_zint_Root
 by_cases c0 : n < 1
 · rw [rootR, if_pos (.inl c0)]
   refine Wr ?_; simp [c0, Z_zero]
   refine Ws ?_; simp [c0, Z_zero]
   refine WS_cT (by simp [c0, Z_zero]) ?_
   refine Wr ?_; simp [c0, Z_zero]
   refine WS_ret ?_; simp [c0, Z_zero]
 · by_cases c1 : 64 < n
   · rw [rootR, if_pos (.inr (.inl c1))]
     refine Wr ?_; simp [c0, c1, Z_zero]
     refine Ws ?_; simp [c0, c1, Z_zero]
     refine WS_cT (by simp [c0, c1, Z_zero]) ?_
     refine Wr ?_; simp [c0, c1, Z_zero]
     refine WS_ret ?_; simp [c0, c1, Z_zero]
   · by_cases c2 : x < 0
     · rw [rootR, if_pos (.inr (.inr c2))]
       rw [sign_lt c2] at sg
       refine Wr ?_; simp [c0, c1, Z_zero]
       refine Ws ?_; simp [c0, c1, Z_zero]
       refine callK sg ?_; simp [c0, c1, Z_zero]
       refine WS_cT (by simp [c0, c1, Z_zero]) ?_
       refine Wr ?_; simp [c0, c1, Z_zero]
       refine WS_ret ?_; simp [c0, c1, Z_zero]
     · have c3 : ¬ x.sign < 0 := by rw [Int.sign_neg_iff]; exact c2
       rw [rootR, if_neg (by omega)]
       obtain ⟨k, rfl⟩ := Int.eq_ofNat_of_zero_le (show 0 ≤ n by omega)
       obtain ⟨X, rfl⟩ := Int.eq_ofNat_of_zero_le (show 0 ≤ x by omega)
       have e1 : ((k : Int)).toNat = k := by omega
       have e2 : ((X : Int)).toNat = X := by omega
       have e3 : ((X : Int)).natAbs = X := by omega
       rw [e1, e2]
       rw [e3] at bs hb
       have hbx := (bl_facts X).1
       obtain ⟨b, hbe⟩ : ∃ b, b = bl X := ⟨_, rfl⟩
       rw [← hbe] at bs hb hbx
       obtain ⟨t, ht⟩ : ∃ t, t = b / k := ⟨_, rfl⟩
       have htb : t ≤ b := by rw [ht]; exact Nat.div_le_self _ _
       have t1 : IntKind.i64.wrap ((b : Int) / (k : Int)) = (t : Int) := by rw [← Int.natCast_ediv, ← ht]; exact i64_nat _ (by omega)
       have t2 : IntKind.i64.wrap ((t : Int) + 1) = (t : Int) + 1 := i64_succ t (by omega)
       have t3 : ¬ (262144 : Int) < (t : Int) + 1 := by omega
       have k0 : k ≠ 0 := by omega
       have sl := nshl_spec [1] (by intro y hy; simp at hy; omega) (by simp) ((t : Int) + 1)
       rw [if_neg (by omega)] at sl
       have e4 : Nm.val 18446744073709551616 [1] * 2 ^ ((t : Int) + 1).toNat = 2 ^ (t + 1) := by rw [show ((t : Int) + 1).toNat = t + 1 by omega]; simp [Nm.val]
       rw [e4] at sl
       have zt : zlen ((2 ^ (t + 1) : Nat) : Int) ≤ K + 1 := zlen_two (by omega)
       have hX : X < (2 ^ (t + 1)) ^ k := by
        rw [← Nat.pow_mul]
        refine Nat.lt_of_lt_of_le hbx (Nat.pow_le_pow_right (by omega) ?_)
        have := Nat.div_add_mod b k
        have := Nat.mod_lt b (show 0 < k by omega)
        rw [Nat.succ_mul, Nat.mul_comm, ht]
        omega
       obtain ⟨P, hP⟩ : ∃ P, P = 2 ^ (t + 1) := ⟨_, rfl⟩
       rw [← hP] at sl zt hX
       have mk := made_spec false (Nm.dig 18446744073709551616 P) ⟨Nm.dig_lt (by omega) _, by have := zt; rw [zlen, zl, Int.natAbs_natCast] at this; omega⟩
       have e5 : zi false (Nm.dig 18446744073709551616 P) = (P : Int) := by simp [zi, Nm.val_dig]
       rw [e5] at mk
       have z0 : (0 : Nat) ^ k = 0 := Nat.zero_pow (by omega)
       refine Wr ?_; simp [c0, c1, c3, t1, t2, t3, k0]
       refine Ws ?_; simp [c0, c1, c3, t1, t2, t3, k0]
       refine callK sg ?_; simp [c0, c1, c3, t1, t2, t3, k0]
       refine WS_cF (by simp [c0, c1, c3, t1, t2, t3, k0]) ?_
       refine WS_skip ?_; simp [c0, c1, c3, t1, t2, t3, k0]
       refine Wr ?_; simp [c0, c1, c3, t1, t2, t3, k0]
       refine callK o0 ?_; simp [c0, c1, c3, t1, t2, t3, k0]
       refine Wr ?_; simp [c0, c1, c3, t1, t2, t3, k0]
       refine callK bs ?_; simp [c0, c1, c3, t1, t2, t3, k0]
       refine callK sl ?_; simp [c0, c1, c3, t1, t2, t3, k0]
       refine Wr ?_; simp [c0, c1, c3, t1, t2, t3, k0]
       refine callK mk ?_; simp [c0, c1, c3, t1, t2, t3, k0]
       refine WS_block ?_
       refine WS_loop (RtZ s l X k (K + 1)) (fun S => bxM 9 S - bxM 6 S) ⟨0, P, ?_, by rw [z0]; omega, hX, zt, rfl, rfl, rfl, rfl, rfl, rfl, rfl, rfl, rfl⟩ ?_
       · rcases Nat.eq_zero_or_pos P with h0 | h0
         · rw [h0, z0] at hX; omega
         · exact h0
       rintro S ⟨a, B, hab, haX, hXB, hB, s1, s2, h2, s4, h4, s6, h6, s9, h9⟩
       have d6 := bxM_eq h6
       have d9 := bxM_eq h9
       rw [zl, Nm.val_dig (by omega)] at d6 d9
       have ha : zlen (a : Int) ≤ K + 1 := Nat.le_trans (zlen_le (by omega)) hB
       have ad := zadd (isZ_of ha) (isZ_of hB) (by omega)
       obtain ⟨w, hw⟩ : ∃ w, w = a + B := ⟨_, rfl⟩
       have hwc : (a : Int) + (B : Int) = (w : Int) := by omega
       rw [hwc] at ad
       have hwl : zlen (w : Int) ≤ K + 2 := by rw [← hwc]; have := zlen_add (a : Int) (B : Int); omega
       have sr := nshr_spec (zl (w : Int)) (zl_dl _) (by have := hwl; rw [zlen] at this; omega) 1 (by omega)
       have e6 : Nm.val 18446744073709551616 (zl (w : Int)) / 2 ^ (1 : Int).toNat = w / 2 := by rw [zl, Nm.val_dig (by omega)]; rfl
       rw [e6] at sr
       obtain ⟨m, hm⟩ : ∃ m, m = w / 2 := ⟨_, rfl⟩
       rw [← hm] at sr
       have hml : zlen (m : Int) ≤ K + 1 := Nat.le_trans (zlen_le (by omega)) hB
       have mk := made_spec false (Nm.dig 18446744073709551616 m) ⟨Nm.dig_lt (by omega) _, by have := hml; rw [zlen, zl, Int.natAbs_natCast] at this; omega⟩
       have e7 : zi false (Nm.dig 18446744073709551616 m) = (m : Int) := by simp [zi, Nm.val_dig]
       rw [e7] at mk
       have cm := zcmp (isZ_of hml) (isZ_of ha) (by omega)
       by_cases hma : m = a
       · subst hma
         rw [Int.sub_self, Int.sign_zero] at cm
         have hr := iroot_of haX (by rw [show m + 1 = B by omega]; exact hXB) (by omega)
         rw [← hr]
         refine WS_block (Wr ?_); simp [s1, s2, h2, s4, h4, s6, h6, s9, h9, U]
         refine callK ad ?_; simp [s1, s2, h2, s4, h4, s6, h6, s9, h9, U]
         refine callK sr ?_; simp [s1, s2, h2, s4, h4, s6, h6, s9, h9, U]
         refine callK mk ?_; simp [s1, s2, h2, s4, h4, s6, h6, s9, h9, U]
         refine Ws ?_; simp [s1, s2, h2, s4, h4, s6, h6, s9, h9, U]
         refine callK cm ?_; simp [s1, s2, h2, s4, h4, s6, h6, s9, h9, U]
         refine WS_cT (by simp [s1, s2, h2, s4, h4, s6, h6, s9, h9, U]) ?_
         refine Wr ?_; simp [s1, s2, h2, s4, h4, s6, h6, s9, h9, U]
         refine WS_ret ?_; simp [s1, s2, h2, s4, h4, s6, h6, s9, h9, U]
       · have cs : ((m : Int) - (a : Int)).sign = 1 := Int.sign_eq_one_of_pos (by omega)
         rw [cs] at cm
         refine WS_block (Wr ?_); simp [s1, s2, h2, s4, h4, s6, h6, s9, h9, U]
         refine callK ad ?_; simp [s1, s2, h2, s4, h4, s6, h6, s9, h9, U]
         refine callK sr ?_; simp [s1, s2, h2, s4, h4, s6, h6, s9, h9, U]
         refine callK mk ?_; simp [s1, s2, h2, s4, h4, s6, h6, s9, h9, U]
         refine Ws ?_; simp [s1, s2, h2, s4, h4, s6, h6, s9, h9, U]
         refine callK cm ?_; simp [s1, s2, h2, s4, h4, s6, h6, s9, h9, U]
         refine WS_cF (by simp [s1, s2, h2, s4, h4, s6, h6, s9, h9, U]) ?_
         refine WS_skip ?_; simp [s1, s2, h2, s4, h4, s6, h6, s9, h9, U]
         refine Wr ?_; simp [s1, s2, h2, s4, h4, s6, h6, s9, h9, U]
         refine callK o1 ?_; simp [s1, s2, h2, s4, h4, s6, h6, s9, h9, U]
         refine Ws ?_; simp [s1, s2, h2, s4, h4, s6, h6, s9, h9, U]
         refine WS_block ?_
         have p0 : (m : Int) ^ 0 = 1 := Int.pow_zero _
         refine WS_loop (RtJ (RtZK s l (a : Int) (B : Int) k) 52 51 (m : Int) k) (fun S => nM 51 S - nM 52 S) ⟨0, _, _, rfl, by simp, by omega, rfl, rfl, rfl, by simp [p0], by simp [RtZK, s1, s2, h2, s4, h4, s6, h6, s9, h9]⟩ ?_
         clear s1 s2 h2 s4 h4 s6 h6 s9 h9
         rintro S' ⟨i, g10, g11, s52, s51, hik, s10, h10, s11, h11, s1, s2, h2, s4, h4, s6, h6, s9, h9⟩
         have d52 := nM_eq s52
         have d51 := nM_eq s51
         have lp : ∀ j, j ≤ k → zlen ((m : Int) ^ j) ≤ 2 ^ 20 := fun j hj => by
          have h1 := zlen_pow (m : Int) j
          have h2 := Nat.mul_le_mul (show j ≤ 64 by omega) hml
          omega
         by_cases hlt : i < k
         · have li := lp i (by omega)
           have mo := zmul (isZ_of li) ((isZ_of hml).mono (show K + 1 ≤ 2 ^ 20 by omega)) (by omega)
           rw [← Int.pow_succ] at mo
           have es := i64_succ i (by omega)
           refine Wr ?_; simp [s52, s51, s10, h10, s11, h11, hlt, es]
           refine WS_seq ?_
           refine WS_cT (by simp [s52, s51, s10, h10, s11, h11, hlt, es]) ?_
           refine WS_skip ?_; simp [s52, s51, s10, h10, s11, h11, hlt, es]
           refine WS_seq (WS_block (WS_reg [] ?_)); simp [s52, s51, s10, h10, s11, h11, hlt, es]
           refine callK mo ?_; simp [s52, s51, s10, h10, s11, h11, hlt, es]
           refine WS_reg [] ?_; simp [s52, s51, s10, h10, s11, h11, hlt, es]
           refine ⟨⟨i + 1, g10, g11, by simp, by simp [s51], by omega, by simp [s10], by simp [h10], by simp [s11], by simp, by simp [RtZK, s1, s2, h2, s4, h4, s6, h6, s9, h9]⟩, ?_⟩
           show nM 51 _ - nM 52 _ < nM 51 S' - nM 52 S'
           rw [d51, d52, nM_eq (i := 51) (n := k) (by simp [s51]), nM_eq (i := 52) (n := i + 1) (by simp)]
           omega
         · obtain rfl : i = k := by omega
           have cq := zcmp (isZ_of (lp i (Nat.le_refl _))) (hv2.mono (show K ≤ 2 ^ 20 by omega)) (by omega)
           by_cases hle : m ^ i ≤ X
           · have hs : ((m : Int) ^ i - (X : Int)).sign ≤ 0 := by
              rw [← Int.natCast_pow, Int.sign_nonpos_iff]; omega
             refine Wr ?_; simp [s52, s51, s10, h10, s11, h11, s1, s2, h2, s4, h4, s6, h6, s9, h9, hs]
             refine WS_seq ?_
             refine WS_cF (by simp [s52, s51, s10, h10, s11, h11, s1, s2, h2, s4, h4, s6, h6, s9, h9, hs]) ?_
             refine WS_exit ?_; simp [s52, s51, s10, h10, s11, h11, s1, s2, h2, s4, h4, s6, h6, s9, h9, hs]
             refine Wr ?_; simp [s52, s51, s10, h10, s11, h11, s1, s2, h2, s4, h4, s6, h6, s9, h9, hs]
             refine callK cq ?_; simp [s52, s51, s10, h10, s11, h11, s1, s2, h2, s4, h4, s6, h6, s9, h9, hs]
             refine WS_cT (by simp [s52, s51, s10, h10, s11, h11, s1, s2, h2, s4, h4, s6, h6, s9, h9, hs]) ?_
             refine WS_reg [] ?_; simp [s52, s51, s10, h10, s11, h11, s1, s2, h2, s4, h4, s6, h6, s9, h9, hs]
             refine ⟨⟨m, B, by omega, hle, hXB, hB, by simp [RtZK, s1, s2, h2, s4, h4, s6, h6, s9, h9]⟩, ?_⟩
             show bxM 9 _ - bxM 6 _ < bxM 9 S - bxM 6 S
             rw [d6, d9, bxM_eq (i := 9) (g := 1) (t := 28) (n := .b (zn (B : Int))) (l := zl (B : Int)) (by simp [h9]), bxM_eq (i := 6) (g := 1) (t := 28) (n := .b (zn (m : Int))) (l := zl (m : Int)) (by simp), zl, zl, Nm.val_dig (by omega), Nm.val_dig (by omega)]
             omega
           · have hs : ¬ ((m : Int) ^ i - (X : Int)).sign ≤ 0 := by
              rw [← Int.natCast_pow, Int.sign_nonpos_iff]; omega
             refine Wr ?_; simp [s52, s51, s10, h10, s11, h11, s1, s2, h2, s4, h4, s6, h6, s9, h9, hs]
             refine WS_seq ?_
             refine WS_cF (by simp [s52, s51, s10, h10, s11, h11, s1, s2, h2, s4, h4, s6, h6, s9, h9, hs]) ?_
             refine WS_exit ?_; simp [s52, s51, s10, h10, s11, h11, s1, s2, h2, s4, h4, s6, h6, s9, h9, hs]
             refine Wr ?_; simp [s52, s51, s10, h10, s11, h11, s1, s2, h2, s4, h4, s6, h6, s9, h9, hs]
             refine callK cq ?_; simp [s52, s51, s10, h10, s11, h11, s1, s2, h2, s4, h4, s6, h6, s9, h9, hs]
             refine WS_cF (by simp [s52, s51, s10, h10, s11, h11, s1, s2, h2, s4, h4, s6, h6, s9, h9, hs]) ?_
             refine WS_reg [] ?_; simp [s52, s51, s10, h10, s11, h11, s1, s2, h2, s4, h4, s6, h6, s9, h9, hs]
             refine ⟨⟨a, m, by omega, haX, by omega, hml, by simp [RtZK, s1, s2, h2, s4, h4, s6, h6, s9, h9]⟩, ?_⟩
             show bxM 9 _ - bxM 6 _ < bxM 9 S - bxM 6 S
             rw [d6, d9, bxM_eq (i := 6) (g := 1) (t := 28) (n := .b (zn (a : Int))) (l := zl (a : Int)) (by simp [h6]), bxM_eq (i := 9) (g := 1) (t := 28) (n := .b (zn (m : Int))) (l := zl (m : Int)) (by simp), zl, zl, Nm.val_dig (by omega), Nm.val_dig (by omega)]
             omega
theorem iroot_le (X : Nat) {k : Nat} (hk : 0 < k) : iroot X k ≤ X := Nat.le_trans (Nat.le_self_pow (by omega) _) (iroot_facts X hk).1
end Go.Vw
