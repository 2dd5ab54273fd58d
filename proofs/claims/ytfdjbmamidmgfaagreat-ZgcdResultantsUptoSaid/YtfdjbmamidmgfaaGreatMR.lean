/- Resultants, squarefree parts. -/
import Derived.Test.YtfdjbmamidmgfaaGreatMP
import Derived.Test.YtfdjbmamidmgfaaGreatPO
import Derived.Test.YtfdjbmamidmgfaaGreatVG
import Derived.Test.YtfdjbmamidmgfaaGreatPT
set_option linter.unusedVariables false
set_option linter.unusedSimpArgs false
namespace Go.Vw
open Go.Proofs Go.Py Go.Dt
def sgB (neg : Bool) : Rat := if neg then -1 else 1
theorem sgB_bne (x y : Bool) : sgB (x != y) = sgB x * sgB y := by cases x <;> cases y <;> simp [sgB] <;> grind
theorem sgB_odd (a b : List Int) : sgB (oddL a && oddL b) = sg ((b.length - 1 - 0) * (a.length - 1 - 0)) := by
 rw [Nat.sub_zero, Nat.sub_zero, sg_odd]
 unfold sgB oddL
 by_cases h1 : (a.length - 1) % 2 = 1 <;> by_cases h2 : (b.length - 1) % 2 = 1 <;> simp [h1, h2]
structure RsQ (k0 L : Nat) (a0 b0 : List Int) (sw : Rat) (K : Nat) (a b : List Int) (g h : Int) (neg : Bool) : Prop where
 gb : GcB k0 L K a b
 pa : PL K a
 pb : PL K b
 zg : zlen g ≤ K
 zh : zlen h ≤ K
 tb : tr b = b
 al : 2 ≤ a.length ∨ K = k0
 main : (b = [] ∧ Su a0 b0 = 0) ∨ ∃ E, SqI a0 b0 a b (a0.length - 1) (b0.length - 1) g h E ∧ sgB neg = sw * E 0 ∧ (a.length = 1 → Su a0 b0 = 1 ∧ E 0 = 1)
theorem exP_len {r : List Int} {m : Int} (hm : m ≠ 0) (h : ∀ t, ∃ z, cf r t = m * z) (t : Nat) : cf r t = m * cf (exP r m) t := by
 have hd : ∀ x ∈ r, x % m = 0 := fun x hx => by
  obtain ⟨i, hi, rfl⟩ := List.mem_iff_getElem.1 hx
  obtain ⟨z, hz⟩ := h i
  rw [cf_lt hi] at hz
  rw [hz]; exact Int.mul_emod_right _ _
 rw [exP, if_neg hm, if_pos hd, cf_tr]
 by_cases ht : t < r.length
 · rw [cf_lt ht, cf_lt (by simpa using ht)]
   simp only [List.getElem_map]
   exact (Int.mul_ediv_cancel' (Int.dvd_of_emod_eq_zero (hd _ (List.getElem_mem ht)))).symm
 · rw [cf_ge (by omega), cf_ge (by simp; omega), Int.mul_zero]
theorem tr_exP (r : List Int) (m : Int) : tr (exP r m) = exP r m := by
 unfold exP
 split
 · rfl
 · split
   · exact tr_tr _
   · rfl
theorem exV_of {x y z : Int} (hy : y ≠ 0) (h : z * y = x) : exV x y = z := by
 rw [exV, if_neg hy, if_pos (by rw [← h]; exact Int.mul_emod_left _ _), ← h]
 exact Int.mul_ediv_cancel _ hy
theorem rsQ_step {k0 L K : Nat} {a0 b0 a b : List Int} {sw : Rat} {g h : Int} {neg : Bool} (H : RsQ k0 L a0 b0 sw K a b g h neg) (hb : 2 ≤ b.length) :
 RsQ k0 L a0 b0 sw (K + (a.length + 1 - b.length) * (K + 1)) b (exP (tr (psD a b).2) (g * h ^ (a.length - b.length))) (ldL b) (stH b h (a.length - b.length)) (neg != (oddL a && oddL b)) ∧ (exP (tr (psD a b).2) (g * h ^ (a.length - b.length))).length < b.length ∧ tr a = a ∧ b.length ≤ a.length := by
 rcases H.main with ⟨h0, _⟩ | ⟨E, I, hE, _⟩
 · rw [h0] at hb; simp at hb
 have hb0 : tr b ≠ [] := by rw [I.tb]; exact List.length_pos_iff.1 I.hb
 have hb1 : b ≠ [] := List.length_pos_iff.1 I.hb
 have lz := ldL_ne hb0
 have hab := I.hab
 obtain ⟨m1, m2, m3, m4⟩ := psD_lim H.pa I.ta H.pb I.tb hb1 rfl
 have c0 : g * h ^ (a.length - b.length) ≠ 0 := Int.mul_ne_zero I.g0 (Int.pow_ne_zero I.h0)
 have he := exP_len c0 (sq_exact I hb)
 have te := tr_exP (tr (psD a b).2) (g * h ^ (a.length - b.length))
 have hle : (exP (tr (psD a b).2) (g * h ^ (a.length - b.length))).length = (tr (psD a b).2).length := by
  have e : Eqp (tr (psD a b).2) (scL (g * h ^ (a.length - b.length)) (exP (tr (psD a b).2) (g * h ^ (a.length - b.length)))) := fun t => by rw [he t, cf_scL]
  have h1 := tr_of_eqp e
  have h2 := tr_scL c0 (exP (tr (psD a b).2) (g * h ^ (a.length - b.length)))
  rw [← h1, tr_tr, te] at h2
  exact h2.symm
 have hh : a.length = b.length ∧ stH b h (a.length - b.length) = h ∨ b.length < a.length ∧ stH b h (a.length - b.length) * h ^ (a.length - b.length - 1) = ldL b ^ (a.length - b.length) := by
  by_cases e : a.length = b.length
  · exact .inl ⟨e, by rw [stH, if_neg (by omega)]⟩
  · obtain ⟨h', hh'⟩ := sq_h I (by omega)
    refine .inr ⟨by omega, ?_⟩
    rw [stH, if_pos (by omega), exV_of (Int.pow_ne_zero I.h0) hh']
    exact hh'
 have zl0 : zlen (ldL b) ≤ K := by rw [ldL_tr I.tb]; exact H.pb _
 have zst : zlen (stH b h (a.length - b.length)) ≤ K + (a.length + 1 - b.length) * (K + 1) := by
  rcases hh with ⟨_, e⟩ | ⟨hlt, e⟩
  · rw [e]; have := H.zh; omega
  · have h1 : (stH b h (a.length - b.length)).natAbs ≤ (ldL b ^ (a.length - b.length)).natAbs := by
     rw [← e, Int.natAbs_mul]
     exact Nat.le_mul_of_pos_right _ (Int.natAbs_pos.2 (Int.pow_ne_zero I.h0))
    have h2 := zlen_le h1
    have h3 := zlen_pow (ldL b) (a.length - b.length)
    have h4 := Nat.mul_le_mul_left (a.length - b.length) zl0
    have h5 : (a.length + 1 - b.length) * (K + 1) = (a.length - b.length) * K + (a.length - b.length) + (K + 1) := by
     rw [show a.length + 1 - b.length = (a.length - b.length) + 1 by omega, Nat.add_mul, Nat.mul_add]; omega
    omega
 have pe : PL (K + (a.length + 1 - b.length) * (K + 1)) (exP (tr (psD a b).2) (g * h ^ (a.length - b.length))) := fun t => by
  refine Nat.le_trans (zlen_le ?_) (m1 t)
  rw [he t, Int.natAbs_mul]
  exact Nat.le_mul_of_pos_left _ (by omega)
 refine ⟨⟨gcB_step H.gb rfl hb1 (by omega), H.pb.mono (by omega), pe, by omega, zst, te, .inl hb, ?_⟩, by omega, I.ta, hab⟩
 by_cases hn : exP (tr (psD a b).2) (g * h ^ (a.length - b.length)) = []
 · refine .inl ⟨hn, ?_⟩
   have h0 : tr (psD a b).2 = [] := List.eq_nil_of_length_eq_zero (by rw [← hle, hn]; rfl)
   exact sq_nil I hb h0
 · refine .inr ⟨_, sq_step I hb te (List.length_pos_iff.2 hn) he hh, ?_, by omega⟩
   rw [sgB_bne, hE, sgB_odd]
   grind
def finV (n : Nat) (l h : Int) : Int := if 1 < n then exV (l ^ n) (h ^ (n - 1)) else l ^ n
theorem rsQ_end {k0 L K : Nat} {a0 b0 a b : List Int} {sw : Rat} {g h : Int} {neg : Bool} (H : RsQ k0 L a0 b0 sw K a b g h neg) (hb : b.length = 1) :
 sgB neg * ((finV (a.length - 1) (ldL b) h : Int) : Rat) = sw * Su a0 b0 ∧ 1 ≤ a.length := by
 rcases H.main with ⟨h0, _⟩ | ⟨E, I, hE, h1⟩
 · rw [h0] at hb; simp at hb
 have hab := I.hab
 have en : E 0 * E 0 = 1 := by rcases I.sg 0 with e | e <;> rw [e] <;> grind
 refine ⟨?_, by omega⟩
 by_cases ha : a.length = 1
 · obtain ⟨h2, h3⟩ := h1 ha
   rw [finV, ha, if_neg (by omega), hE, h2, h3, Nat.sub_self, Int.pow_zero]
   push_cast
   grind
 · have h2 := sq_end I hb (by omega)
   obtain ⟨z, hz⟩ := su_int a0 b0
   have h3 : Sub (po a0) (po b0) (a0.length - 1) (b0.length - 1) 0 0 = Su a0 b0 := rfl
   rw [h3] at h2
   have hf : ((finV (a.length - 1) (ldL b) h : Int) : Rat) = E 0 * Su a0 b0 := by
    by_cases h4 : 1 < a.length - 1
    · have hp : h ^ (a.length - 1 - 1) ≠ 0 := Int.pow_ne_zero I.h0
      rw [hz] at h2 ⊢
      obtain ⟨e, he, hee⟩ : ∃ e : Int, (e : Rat) = E 0 ∧ True := by
       rcases I.sg 0 with s | s
       · exact ⟨1, by rw [s]; rfl, trivial⟩
       · exact ⟨-1, by rw [s]; rfl, trivial⟩
      rw [finV, if_pos h4, exV_of (z := e * z) hp]
      · push_cast; rw [he]
      · refine cast_inj ?_
        rw [h2, ← he]
        push_cast
        grind
    · rw [finV, if_neg h4, h2, show a.length - 1 - 1 = 0 by omega, Rat.pow_zero]
      grind
   rw [hf, hE]
   grind
theorem gcB_lim {k0 L K : Nat} {x y : List Int} (h : GcB k0 L K x y) (j : Nat) (hj : j ≤ x.length ∨ K = k0) : K + 2 ≤ 2 * (k0 + 2) * 3 ^ (L - j) := by
 rcases hj with hj | hj
 · rcases h.2 with ⟨_, h2⟩ | ⟨h2, _⟩
   · exact Nat.le_trans h2 (Nat.mul_le_mul_left _ (Nat.pow_le_pow_right (by omega) (by omega)))
   · have : 2 * (k0 + 2) * 1 ≤ 2 * (k0 + 2) * 3 ^ (L - j) := Nat.mul_le_mul_left _ (Nat.one_le_pow _ _ (by omega))
     omega
 · have : 2 * (k0 + 2) * 1 ≤ 2 * (k0 + 2) * 3 ^ (L - j) := Nat.mul_le_mul_left _ (Nat.one_le_pow _ _ (by omega))
   omega
theorem rsQ_init {k0 L : Nat} {a0 b0 : List Int} {sw : Rat} {neg : Bool} (hk : 1 ≤ k0) (pa : PL k0 a0) (pb : PL k0 b0) (ta : tr a0 = a0) (tb : tr b0 = b0) (hb : 1 ≤ b0.length) (hab : b0.length ≤ a0.length) (hL : a0.length ≤ L) (hs : sgB neg = sw) : RsQ k0 L a0 b0 sw k0 a0 b0 1 1 neg := by
 have z1 : zlen 1 ≤ k0 := Nat.le_trans zlen_one hk
 refine ⟨⟨hL, .inr ⟨rfl, by omega⟩⟩, pa, pb, z1, z1, tb, .inr rfl, .inr ⟨fun _ => 1, ⟨ta, tb, hb, hab, by decide, by decide, fun _ => rfl, fun _ => .inl rfl, fun j t _ _ => ?_⟩, by rw [hs]; grind, fun h1 => ⟨?_, rfl⟩⟩⟩
 · have one : ∀ k : Nat, (((1 : Int) : Rat)) ^ k = 1 := fun k => by
    induction k with
    | zero => rw [Rat.pow_zero]
    | succ k ih => rw [Rat.pow_succ, ih]; grind
   simp only [one]
   grind
 · rw [su_const tb (by omega), h1, Nat.sub_self, Rat.pow_zero]
theorem rsZ_fin {a b : List Int} (ha : tr a ≠ []) (hb : tr b ≠ []) {neg : Bool} {x : Int} {sw : Rat} {a0 b0 : List Int} (h : sgB neg * (x : Rat) = sw * Su a0 b0) (hsw : Su (ppL a) (ppL b) = sw * Su a0 b0) :
 rsZ a b = (if neg then -(x * (coL a ^ ((tr b).length - 1) * coL b ^ ((tr a).length - 1))) else x * (coL a ^ ((tr b).length - 1) * coL b ^ ((tr a).length - 1))) := by
 refine cast_inj ?_
 rw [rsZ_cast ha hb, su_pp, hsw, ← h]
 unfold sgB
 cases neg <;> simp <;> grind
theorem rsQ_run {k0 L : Nat} {a0 b0 : List Int} {sw : Rat} : ∀ (n : Nat) {K : Nat} {a b : List Int} {g h : Int} {neg : Bool}, b.length ≤ n → RsQ k0 L a0 b0 sw K a b g h neg → ∃ K a b g h neg, RsQ k0 L a0 b0 sw K a b g h neg ∧ b.length ≤ 1
 | 0, K, a, b, g, h, neg, hn, Q => ⟨_, _, _, _, _, _, Q, by omega⟩
 | n + 1, K, a, b, g, h, neg, hn, Q => by
  by_cases hb : 2 ≤ b.length
  · obtain ⟨Q2, hlt, _⟩ := rsQ_step Q hb
    exact rsQ_run n (by omega) Q2
  · exact ⟨_, _, _, _, _, _, Q, by omega⟩
theorem finV_lim {l h : Int} {n K : Nat} (hl : zlen l ≤ K) (hn : n ≤ 15) (hK : K ≤ 2 ^ 15) : zlen (finV n l h) ≤ 2 ^ 20 := by
 have q1 := zlen_pow l n
 have q3 := Nat.mul_le_mul_left n hl
 have hnK : n * K ≤ 15 * 2 ^ 15 := Nat.mul_le_mul hn hK
 unfold finV
 split
 · refine Nat.le_trans (zlen_le (y := l ^ n) ?_) (by omega)
   unfold exV
   split
   · simp
   · split
     · rename_i hd
       rw [Int.natAbs_ediv_of_dvd (Int.dvd_of_emod_eq_zero hd)]
       exact Nat.div_le_self _ _
     · simp
 · omega
theorem rsZ_lim {k0 L : Nat} {a b : List Int} (pa : PL k0 a) (pb : PL k0 b) (la : a.length ≤ L) (lb : b.length ≤ L) (hk : 1 ≤ k0) (hL : 3 ≤ L) (hL2 : L ≤ 16) (hC : 2 * (k0 + 2) * 3 ^ (L - 3) ≤ 2 ^ 13) : zlen (rsZ a b) ≤ 2 ^ 21 := by
 by_cases ha0 : tr a = []
 · rw [rsZ_nil (.inl ha0)]; decide
 by_cases hb0 : tr b = []
 · rw [rsZ_nil (.inr hb0)]; decide
 have hC2 : 2 * (k0 + 2) * 3 ^ (L - 2) ≤ 3 * 2 ^ 13 := by
  rw [show L - 2 = (L - 3) + 1 by omega, Nat.pow_succ, ← Nat.mul_assoc]
  omega
 have hk0 : 2 * (k0 + 2) ≤ 2 ^ 13 := by
  have : 2 * (k0 + 2) * 1 ≤ 2 * (k0 + 2) * 3 ^ (L - 3) := Nat.mul_le_mul_left _ (Nat.one_le_pow _ _ (by omega))
  omega
 have tla := tr_len a
 have tlb := tr_len b
 have lta := List.length_pos_iff.2 ha0
 have ltb := List.length_pos_iff.2 hb0
 have lpa := ppL_len' a
 have lpb := ppL_len' b
 obtain ⟨c, hc⟩ : ∃ c, c = coL a ^ ((tr b).length - 1) * coL b ^ ((tr a).length - 1) := ⟨_, rfl⟩
 have zc : zlen c ≤ 2 ^ 19 := by
  have z1 := coL_len pa
  have z2 := coL_len pb
  have hnk : ((tr b).length - 1) * k0 ≤ 15 * 2 ^ 12 := Nat.mul_le_mul (by omega) (by omega)
  have hmk : ((tr a).length - 1) * k0 ≤ 15 * 2 ^ 12 := Nat.mul_le_mul (by omega) (by omega)
  have q1 := zlen_pow (coL a) ((tr b).length - 1)
  have q2 := zlen_pow (coL b) ((tr a).length - 1)
  have q3 := Nat.mul_le_mul_left ((tr b).length - 1) z1
  have q4 := Nat.mul_le_mul_left ((tr a).length - 1) z2
  have q5 := zlen_mul (coL a ^ ((tr b).length - 1)) (coL b ^ ((tr a).length - 1))
  rw [hc]; omega
 have main : ∀ (a0 b0 : List Int) (sw : Rat) (neg0 : Bool), RsQ k0 L a0 b0 sw k0 a0 b0 1 1 neg0 → Su (ppL a) (ppL b) = sw * Su a0 b0 → zlen (rsZ a b) ≤ 2 ^ 21 := by
  intro a0 b0 sw neg0 Q0 hsw
  obtain ⟨K, x, y, g, h, neg, Q, hy⟩ := rsQ_run _ (Nat.le_refl _) Q0
  by_cases h0 : y = []
  · rcases Q.main with ⟨_, hz⟩ | ⟨E, I, _⟩
    · rw [rsZ_pp ha0 hb0, hsw, hz, Rat.mul_zero]
      simp
      decide
    · have := I.hb
      rw [h0] at this
      simp at this
  · have hy1 : y.length = 1 := by have := List.length_pos_iff.2 h0; omega
    obtain ⟨e1, e2⟩ := rsQ_end Q hy1
    have hK := gcB_lim Q.gb 2 Q.al
    have hx := Q.gb.1
    have zf := finV_lim (l := ldL y) (h := h) (n := x.length - 1) (K := K) (by rw [ldL_tr Q.tb]; exact Q.pb _) (by omega) (by omega)
    have hv := rsZ_fin ha0 hb0 e1 hsw
    rw [← hc] at hv
    have hm := zlen_mul (finV (x.length - 1) (ldL y) h) c
    rw [hv]
    split
    · rw [zlen_neg]; omega
    · omega
 rcases Nat.lt_or_ge (tr a).length (tr b).length with h | h
 · refine main (ppL b) (ppL a) (sg (((ppL b).length - 1) * ((ppL a).length - 1))) (oddL (ppL b) && oddL (ppL a)) (rsQ_init hk (pl_pp pb) (pl_pp pa) (tr_ppL b) (tr_ppL a) (by omega) (by omega) (by omega) ?_) (su_swap (ppL b) (ppL a))
   rw [sgB_odd, Nat.sub_zero, Nat.sub_zero, Nat.mul_comm]
 · exact main (ppL a) (ppL b) 1 false (rsQ_init hk (pl_pp pa) (pl_pp pb) (tr_ppL a) (tr_ppL b) (by omega) (by omega) (by omega) rfl) (by rw [Rat.one_mul])
def RsS (k0 L : Nat) (a0 b0 : List Int) (sw : Rat) (c : Int) (S : St) : Prop := ∃ K a b g h neg, RsQ k0 L a0 b0 sw K a b g h neg ∧ S.σ 7 = .ptr 53 1 0 ∧ S.σ 8 = .bnd f_zgcd_sequence_step 53 1 ∧ S.σ 6 = .ptr 6 1 0 ∧ S.h 6 = ⟨1, some (.box 28 [.b (zn c), .sl none (uL (zl c))])⟩ ∧
 S.σ 4 = .ptr 4 1 0 ∧ S.h 4 = ⟨1, some (.box 28 [.b false, .sl none []])⟩ ∧ S.h 53 = ⟨1, some (.box 75 (sqc a b g h neg))⟩ ∧ S.h 9 = ⟨0, none⟩
def rsM (S : St) : Nat := match (S.h 53).o with | some (.box _ (_ :: .sl _ xs :: _)) => xs.length | _ => 0
theorem rsM_eq {S : St} {a b : List Int} {g h : Int} {neg : Bool} {G : Nat} {T : TypeId} (e : S.h 53 = ⟨G, some (.box T (sqc a b g h neg))⟩) : rsM S = b.length := by
 simp only [rsM, e, sqc, PZ_length]
def resV (b : List Int) (n : Nat) (h c : Int) (neg : Bool) : Int := if b = [] then 0 else if neg then -(finV n (ldL b) h * c) else finV n (ldL b) h * c
attribute [local simp] zv V.fits fillOk fillV Z_eq
theorem res_tail {a b : List Int} {g h c : Int} {neg : Bool} {K n : Nat} (pb : PL K b) (zh : zlen h ≤ K) (zc : zlen c ≤ 2 ^ 19) (hb1 : b.length ≤ 1) (tb : tr b = b) (ha : b = [] ∨ a.length = n + 1) (hK : K ≤ 2 ^ 15) (hn : n ≤ 15) (S : St)
 (s7 : S.σ 7 = .ptr 53 1 0) (s6 : S.σ 6 = .ptr 6 1 0) (h6 : S.h 6 = ⟨1, some (.box 28 [.b (zn c), .sl none (uL (zl c))])⟩) (s4 : S.σ 4 = .ptr 4 1 0) (h4 : S.h 4 = ⟨1, some (.box 28 [.b false, .sl none []])⟩)
 (h53 : S.h 53 = ⟨1, some (.box 75 (sqc a b g h neg))⟩) (h9 : S.h 9 = ⟨0, none⟩) :
 WS Tryz.prog 144 sc_zgcd_Resultant.snd.snd.snd.snd.snd.snd.snd (retQ [(.cell 4 (some 2)), (.tmp 5)] [] (· = [.pure (Z (resV b n h c neg)), .pure (.i .i64 0)])) S := by
 unfold sc_zgcd_Resultant
 simp only [SC.snd]
 have bl := PZ_length b
 have al := PZ_length a
 rw [sqc] at h53
 have o0 := zof 0 (by omega) (by omega)
 by_cases hb0 : b = []
 · subst hb0
   rw [resV, if_pos rfl]
   rw [show PZ [] = [] from rfl] at h53
   refine Ws ?_; simp [s7, s6, h6, s4, h4, h53]
   refine WS_cT (by simp [s7, s6, h6, s4, h4, h53]) ?_
   refine Wr ?_; simp [s7, s6, h6, s4, h4, h53]
   refine callK o0 ?_; simp [s7, s6, h6, s4, h4, h53]
   refine WS_ret ?_; simp [s7, s6, h6, s4, h4, h53]
 · have bp := List.length_pos_iff.2 hb0
   have b1 : b.length = 1 := by omega
   have ha' : a.length = n + 1 := by rcases ha with h | h; exact absurd h hb0; exact h
   rw [resV, if_neg hb0]
   have hg0 := PZ_get b 0 (by rw [PZ_length]; omega)
   rw [show cf b 0 = ldL b by rw [ldL_tr tb, b1]] at hg0
   have zl0 : zlen (ldL b) ≤ K := by rw [ldL_tr tb]; exact pb _
   obtain ⟨l, hl⟩ : ∃ l, l = ldL b := ⟨_, rfl⟩
   rw [← hl] at hg0 zl0 ⊢
   have dA := gdeg (sz := some 2) (PZ a) (by omega)
   rw [al, ha', show ((n + 1 : Nat) : Int) - 1 = (n : Int) by omega] at dA
   rw [b1] at bl
   have hnK : n * K ≤ 15 * 2 ^ 15 := Nat.mul_le_mul hn hK
   have hnK2 : (n - 1) * K ≤ 15 * 2 ^ 15 := Nat.mul_le_mul (by omega) hK
   have pw1 := gpow (isZ_of zl0) n (by omega) (by omega) (by omega)
   have pw2 := gpow (isZ_of zh) (n - 1) (by omega) (by omega) (by omega)
   have q1 := zlen_pow l n
   have q2 := zlen_pow h (n - 1)
   have q3 := Nat.mul_le_mul_left n zl0
   have q4 := Nat.mul_le_mul_left (n - 1) zh
   have ex := zexact (isZ_of (x := l ^ n) (k := 2 ^ 20) (by omega)) (isZ_of (x := h ^ (n - 1)) (k := 2 ^ 20) (by omega)) (by omega)
   obtain ⟨e2, he2⟩ := exactR_exV (l ^ n) (h ^ (n - 1))
   rw [he2] at ex
   have zf : zlen (finV n l h) ≤ 2 ^ 20 := by
    unfold finV
    split
    · refine Nat.le_trans (zlen_le (y := l ^ n) ?_) (by omega)
      unfold exV
      split
      · simp
      · split
        · rename_i hd
          rw [Int.natAbs_ediv_of_dvd (Int.dvd_of_emod_eq_zero hd)]
          exact Nat.div_le_self _ _
        · simp
    · omega
   have mu := zmul (isZ_of zf) (isZ_of (x := c) (k := 2 ^ 20) (by omega)) (by omega)
   have ml := zlen_mul (finV n l h) c
   have ng := zneg (isZ_of (x := finV n l h * c) (k := 2 ^ 21) (by omega)) (by omega)
   have n1 : IntKind.i64.wrap ((n : Int) - 1) = ((n - 1 : Nat) : Int) ∨ n = 0 := by
    by_cases h : n = 0
    · exact .inr h
    · exact .inl (by rw [show (n : Int) - 1 = ((n - 1 : Nat) : Int) by omega]; exact i64_nat _ (by omega))
   clear q1 q2 q3 q4 hnK hnK2 zf ml he2 hl zl0 zh pb
   obtain ⟨WA, wA⟩ : ∃ W, W = PZ a := ⟨_, rfl⟩
   rw [← wA] at dA al h53
   obtain ⟨WB, wB⟩ : ∃ W, W = PZ b := ⟨_, rfl⟩
   rw [← wB] at bl h53
   simp only [← wB] at hg0
   have key : ∀ S : St, S.σ 7 = .ptr 53 1 0 → S.σ 6 = .ptr 6 1 0 → S.h 6 = ⟨1, some (.box 28 [.b (zn c), .sl none (uL (zl c))])⟩ → S.σ 4 = .ptr 4 1 0 → S.h 4 = ⟨1, some (.box 28 [.b false, .sl none []])⟩ →
    S.h 53 = ⟨1, some (.box 75 [.sl (some 2) WA, .sl (some 2) WB, .b (zn g), .sl none (uL (zl g)), .b (zn h), .sl none (uL (zl h)), .b neg])⟩ → S.σ 9 = .ptr 9 1 0 → S.h 9 = ⟨1, some (.box 28 [.b (zn (finV n l h)), .sl none (uL (zl (finV n l h)))])⟩ →
    WS Tryz.prog 144 sc_zgcd_Resultant.snd.snd.snd.snd.snd.snd.snd.snd.snd.snd (retQ [(.cell 4 (some 2)), (.tmp 5)] [] (· = [.pure (Z (if neg then -(finV n l h * c) else finV n l h * c)), .pure (.i .i64 0)])) S := by
    intro S s7 s6 h6 s4 h4 h53 s9 h9
    unfold sc_zgcd_Resultant
    simp only [SC.snd]
    obtain ⟨F, hF⟩ : ∃ F, F = finV n l h := ⟨_, rfl⟩
    rw [← hF] at mu ng h9 ⊢
    cases neg
    · refine Wr ?_; simp [s7, s6, h6, s4, h4, h53, s9, h9]
      refine callK mu ?_; simp [s7, s6, h6, s4, h4, h53, s9, h9]
      refine Ws ?_; simp [s7, s6, h6, s4, h4, h53, s9, h9]
      refine WS_cF (by simp [s7, s6, h6, s4, h4, h53, s9, h9]) ?_
      refine WS_skip ?_; simp [s7, s6, h6, s4, h4, h53, s9, h9]
      refine Wr ?_; simp [s7, s6, h6, s4, h4, h53, s9, h9]
      refine WS_ret ?_; simp [s7, s6, h6, s4, h4, h53, s9, h9]
    · refine Wr ?_; simp [s7, s6, h6, s4, h4, h53, s9, h9]
      refine callK mu ?_; simp [s7, s6, h6, s4, h4, h53, s9, h9]
      refine Ws ?_; simp [s7, s6, h6, s4, h4, h53, s9, h9]
      refine WS_cT (by simp [s7, s6, h6, s4, h4, h53, s9, h9]) ?_
      refine WS_reg [] ?_; simp [s7, s6, h6, s4, h4, h53, s9, h9]
      refine callK ng ?_; simp [s7, s6, h6, s4, h4, h53, s9, h9]
      refine Wr ?_; simp [s7, s6, h6, s4, h4, h53, s9, h9]
      refine WS_ret ?_; simp [s7, s6, h6, s4, h4, h53, s9, h9]
   unfold sc_zgcd_Resultant at key
   simp only [SC.snd] at key
   by_cases hn1 : 1 < n
   · have hnI : (1 : Int) < (n : Int) := by omega
     have n2 : IntKind.i64.wrap ((n : Int) - 1) = ((n - 1 : Nat) : Int) := by rcases n1 with h | h; exact h; omega
     have ef : finV n l h = exV (l ^ n) (h ^ (n - 1)) := by rw [finV, if_pos hn1]
     rw [ef] at key ⊢
     clear mu ng ef
     obtain ⟨u, hu⟩ : ∃ u, u = exV (l ^ n) (h ^ (n - 1)) := ⟨_, rfl⟩
     rw [← hu] at ex key ⊢
     obtain ⟨p2, hp2⟩ : ∃ u, u = l ^ n := ⟨_, rfl⟩
     rw [← hp2] at ex pw1
     obtain ⟨p3, hp3⟩ : ∃ u, u = h ^ (n - 1) := ⟨_, rfl⟩
     rw [← hp3] at ex pw2
     refine Ws ?_; simp [s7, s6, h6, s4, h4, h53, h9, bl, hg0, hn1, hnI, n2]
     refine WS_cF (by simp [s7, s6, h6, s4, h4, h53, h9, bl, hg0, hn1, hnI, n2]) ?_
     refine WS_skip ?_; simp [s7, s6, h6, s4, h4, h53, h9, bl, hg0, hn1, hnI, n2]
     refine WS_seq (WS_regD [] ?_); simp [s7, s6, h6, s4, h4, h53, h9, bl, hg0, hn1, hnI, n2]
     refine callD dA rfl ?_; simp [s7, s6, h6, s4, h4, h53, h9, bl, hg0, hn1, hnI, n2]
     refine callD pw1 rfl ?_; simp [s7, s6, h6, s4, h4, h53, h9, bl, hg0, hn1, hnI, n2]
     refine ⟨rfl, ?_⟩
     refine Ws ?_; simp [s7, s6, h6, s4, h4, h53, h9, bl, hg0, hn1, hnI, n2]
     refine callK dA ?_; simp [s7, s6, h6, s4, h4, h53, h9, bl, hg0, hn1, hnI, n2]
     refine Wr ?_; simp [s7, s6, h6, s4, h4, h53, h9, bl, hg0, hn1, hnI, n2]
     refine WS_cT (by simp [s7, s6, h6, s4, h4, h53, h9, bl, hg0, hn1, hnI, n2]) ?_
     refine WS_regD [] ?_; simp [s7, s6, h6, s4, h4, h53, h9, bl, hg0, hn1, hnI, n2]
     refine callD pw2 rfl ?_; simp [s7, s6, h6, s4, h4, h53, h9, bl, hg0, hn1, hnI, n2]
     refine callD ex rfl ?_; simp [s7, s6, h6, s4, h4, h53, h9, bl, hg0, hn1, hnI, n2]
     refine ⟨rfl, ?_⟩
     refine key _ ?_ ?_ ?_ ?_ ?_ ?_ ?_ ?_ <;> simp [s7, s6, h6, s4, h4, h53, h9]
   · have hnI : ¬ (1 : Int) < (n : Int) := by omega
     have ef : finV n l h = l ^ n := by rw [finV, if_neg hn1]
     rw [ef] at key ⊢
     clear mu ng ef ex
     obtain ⟨p2, hp2⟩ : ∃ u, u = l ^ n := ⟨_, rfl⟩
     rw [← hp2] at pw1 key ⊢
     refine Ws ?_; simp [s7, s6, h6, s4, h4, h53, h9, bl, hg0, hn1, hnI]
     refine WS_cF (by simp [s7, s6, h6, s4, h4, h53, h9, bl, hg0, hn1, hnI]) ?_
     refine WS_skip ?_; simp [s7, s6, h6, s4, h4, h53, h9, bl, hg0, hn1, hnI]
     refine WS_seq (WS_regD [] ?_); simp [s7, s6, h6, s4, h4, h53, h9, bl, hg0, hn1, hnI]
     refine callD dA rfl ?_; simp [s7, s6, h6, s4, h4, h53, h9, bl, hg0, hn1, hnI]
     refine callD pw1 rfl ?_; simp [s7, s6, h6, s4, h4, h53, h9, bl, hg0, hn1, hnI]
     refine ⟨rfl, ?_⟩
     refine Ws ?_; simp [s7, s6, h6, s4, h4, h53, h9, bl, hg0, hn1, hnI]
     refine callK dA ?_; simp [s7, s6, h6, s4, h4, h53, h9, bl, hg0, hn1, hnI]
     refine Wr ?_; simp [s7, s6, h6, s4, h4, h53, h9, bl, hg0, hn1, hnI]
     refine WS_cF (by simp [s7, s6, h6, s4, h4, h53, h9, bl, hg0, hn1, hnI]) ?_
     refine WS_skip ?_; simp [s7, s6, h6, s4, h4, h53, h9, bl, hg0, hn1, hnI]
     refine key _ ?_ ?_ ?_ ?_ ?_ ?_ ?_ ?_ <;> simp [s7, s6, h6, s4, h4, h53, h9]
set_option maxHeartbeats 4000000 in
theorem gres {k0 L : Nat} {vs ws : List V} {a b : List Int} (hv : IsP k0 vs a) (hw : IsP k0 ws b) (hn : vs.length ≤ L) (hn2 : ws.length ≤ L) (hk : 1 ≤ k0) (hL : 3 ≤ L) (hL2 : L ≤ 16) (hC : 2 * (k0 + 2) * 3 ^ (L - 3) ≤ 2 ^ 13) :
 Spec Tryz.prog f_zgcd_Resultant [.sl (some 2) vs, .sl (some 2) ws] (· = [.pure (Z (rsZ a b)), .pure (.i .i64 0)]) := by
 have hC2 : 2 * (k0 + 2) * 3 ^ (L - 2) ≤ 3 * 2 ^ 13 := by
  rw [show L - 2 = (L - 3) + 1 by omega, Nat.pow_succ, ← Nat.mul_assoc]
  omega
 have hk0 : 2 * (k0 + 2) ≤ 2 ^ 13 := by
  have : 2 * (k0 + 2) * 1 ≤ 2 * (k0 + 2) * 3 ^ (L - 3) := Nat.mul_le_mul_left _ (Nat.one_le_pow _ _ (by omega))
  omega
 have n1 := own_plain (pnorm hv (by omega) (by omega))
 have n2 := own_plain (pnorm hw (by omega) (by omega))
 have tla := tr_len a
 have tlb := tr_len b
 have lva := hv.len
 have lvb := hw.len
 have al := PZ_length (tr a)
 have bl := PZ_length (tr b)
 have o0 := zof 0 (by omega) (by omega)
 have o1 := zof 1 (by omega) (by omega)
 have a65 : ¬ (65 : Int) < ((tr a).length : Int) := by omega
 have b65 : ¬ (65 : Int) < ((tr b).length : Int) := by omega
 by_cases ha0 : tr a = []
 · rw [rsZ_nil (.inl ha0)]
   rw [ha0] at n1 al a65
   obtain ⟨A, hA⟩ : ∃ A, A = PZ [] := ⟨_, rfl⟩
   rw [← hA] at n1 al
   obtain ⟨B, hB⟩ : ∃ A, A = PZ (tr b) := ⟨_, rfl⟩
   rw [← hB] at n2 bl
   refine spec_at Tryz.func16 ok_zgcd_Resultant [] rfl (by simp) ?_
   unfold sc_zgcd_Resultant
   refine Wr ?_; simp [al, bl, a65, b65]
   refine Wr ?_; simp [al, bl, a65, b65]
   refine callK n1 ?_; simp [al, bl, a65, b65]
   refine callK n2 ?_; simp [al, bl, a65, b65]
   refine WS_seq (WS_block (Wr ?_)); simp [al, bl, a65, b65]
   refine WS_cF (by simp [al, bl, a65, b65]) ?_
   refine Wr ?_; simp [al, bl, a65, b65]
   refine WS_cT (by simp [al, bl, a65, b65]) ?_
   refine Wr ?_; simp [al, bl, a65, b65]
   refine callK o0 ?_; simp [al, bl, a65, b65]
   refine WS_ret ?_; simp [al, bl, a65, b65]
 · by_cases hb0 : tr b = []
   · rw [rsZ_nil (.inr hb0)]
     rw [hb0] at n2 bl b65
     have la := List.length_pos_iff.2 ha0
     have laI : (((tr a).length : Int) == 0) = false := by simp; omega
     obtain ⟨B, hB⟩ : ∃ A, A = PZ [] := ⟨_, rfl⟩
     rw [← hB] at n2 bl
     obtain ⟨A, hA⟩ : ∃ A, A = PZ (tr a) := ⟨_, rfl⟩
     rw [← hA] at n1 al
     refine spec_at Tryz.func16 ok_zgcd_Resultant [] rfl (by simp) ?_
     unfold sc_zgcd_Resultant
     refine Wr ?_; simp [al, bl, a65, b65, laI]
     refine Wr ?_; simp [al, bl, a65, b65, laI]
     refine callK n1 ?_; simp [al, bl, a65, b65, laI]
     refine callK n2 ?_; simp [al, bl, a65, b65, laI]
     refine WS_seq (WS_block (Wr ?_)); simp [al, bl, a65, b65, laI]
     refine WS_cF (by simp [al, bl, a65, b65, laI]) ?_
     refine Wr ?_; simp [al, bl, a65, b65, laI]
     refine WS_cT (by simp [al, bl, a65, b65, laI]) ?_
     refine Wr ?_; simp [al, bl, a65, b65, laI]
     refine callK o0 ?_; simp [al, bl, a65, b65, laI]
     refine WS_ret ?_; simp [al, bl, a65, b65, laI]
   · have la := List.length_pos_iff.2 ha0
     have lb := List.length_pos_iff.2 hb0
     have laI : (((tr a).length : Int) == 0) = false := by simp; omega
     have lbI : (((tr b).length : Int) == 0) = false := by simp; omega
     have la0 : ¬ (tr a).length = 0 := by omega
     have lb0 : ¬ (tr b).length = 0 := by omega
     have pa := pl_tr hv.pl
     have pb := pl_tr hw.pl
     have c1 := pcontent (isP_PZ pa) (by omega) (by omega)
     have c2 := pcontent (isP_PZ pb) (by omega) (by omega)
     rw [coL_eqp (cf_tr a)] at c1
     rw [coL_eqp (cf_tr b)] at c2
     have z1 := coL_len hv.pl
     have z2 := coL_len hw.pl
     have dA := gdeg (sz := some 2) (PZ (tr a)) (by omega)
     have dB := gdeg (sz := some 2) (PZ (tr b)) (by omega)
     have p1 := own_plain (pprim (isP_PZ pa) (by omega) (by omega))
     have p2 := own_plain (pprim (isP_PZ pb) (by omega) (by omega))
     rw [ppL_eqp' (cf_tr a)] at p1
     rw [ppL_eqp' (cf_tr b)] at p2
     obtain ⟨m, hm⟩ : ∃ m, (tr a).length = m + 1 := ⟨(tr a).length - 1, by omega⟩
     obtain ⟨n, hn'⟩ : ∃ m, (tr b).length = m + 1 := ⟨(tr b).length - 1, by omega⟩
     rw [al, hm, show ((m + 1 : Nat) : Int) - 1 = (m : Int) by omega] at dA
     rw [bl, hn', show ((n + 1 : Nat) : Int) - 1 = (n : Int) by omega] at dB
     have hnk : n * k0 ≤ 15 * 2 ^ 12 := Nat.mul_le_mul (by omega) (by omega)
     have hmk : m * k0 ≤ 15 * 2 ^ 12 := Nat.mul_le_mul (by omega) (by omega)
     have w1 := gpow (isZ_of z1) n (by omega) (by omega) (by omega)
     have w2 := gpow (isZ_of z2) m (by omega) (by omega) (by omega)
     have q1 := zlen_pow (coL a) n
     have q2 := zlen_pow (coL b) m
     have q3 := Nat.mul_le_mul_left n z1
     have q4 := Nat.mul_le_mul_left m z2
     have mu := zmul (isZ_of (x := coL a ^ n) (k := 2 ^ 17) (by omega)) (isZ_of (x := coL b ^ m) (k := 2 ^ 17) (by omega)) (by omega)
     have ml := zlen_mul (coL a ^ n) (coL b ^ m)
     have qa := pl_pp hv.pl
     have qb := pl_pp hw.pl
     have ta := tr_ppL a
     have tb := tr_ppL b
     have lpa := ppL_len' a
     have lpb := ppL_len' b
     have fin : ∀ (neg : Bool) (x : Int) (sw : Rat) (a0 b0 : List Int), sgB neg * (x : Rat) = sw * Su a0 b0 → Su (ppL a) (ppL b) = sw * Su a0 b0 → rsZ a b = (if neg then -(x * (coL a ^ n * coL b ^ m)) else x * (coL a ^ n * coL b ^ m)) := fun neg x sw a0 b0 h1 h2 => by
      have := rsZ_fin ha0 hb0 h1 h2
      rw [hm, hn', Nat.add_sub_cancel, Nat.add_sub_cancel] at this
      exact this
     have su0 := rsZ_pp ha0 hb0
     rw [hm, hn', Nat.add_sub_cancel, Nat.add_sub_cancel] at su0
     have ssw := su_swap (ppL b) (ppL a)
     obtain ⟨c, hc⟩ : ∃ c, c = coL a ^ n * coL b ^ m := ⟨_, rfl⟩
     have zc : zlen c ≤ 2 ^ 19 := by rw [hc]; omega
     rw [← hc] at mu su0
     simp only [← hc] at fin
     clear hc ml q1 q2 q3 q4
     obtain ⟨u1, hu1⟩ : ∃ c, c = coL a ^ n := ⟨_, rfl⟩
     rw [← hu1] at w1 mu
     obtain ⟨u2, hu2⟩ : ∃ c, c = coL b ^ m := ⟨_, rfl⟩
     rw [← hu2] at w2 mu
     obtain ⟨ca, hca⟩ : ∃ c, c = coL a := ⟨_, rfl⟩
     rw [← hca] at c1 w1
     obtain ⟨cb, hcb⟩ : ∃ c, c = coL b := ⟨_, rfl⟩
     rw [← hcb] at c2 w2
     obtain ⟨x, hx⟩ : ∃ x, x = ppL a := ⟨_, rfl⟩
     obtain ⟨y, hy⟩ : ∃ x, x = ppL b := ⟨_, rfl⟩
     rw [← hx] at p1 qa ta lpa
     rw [← hy] at p2 qb tb lpb
     rw [← hx, ← hy] at ssw su0
     simp only [← hx, ← hy] at fin
     have rest : ∀ (a0 b0 : List Int) (sw : Rat) (neg : Bool), RsQ k0 L a0 b0 sw k0 a0 b0 1 1 neg → Su x y = sw * Su a0 b0 → ∀ S : St, S.σ 7 = .ptr 53 1 0 → S.σ 6 = .ptr 6 1 0 → S.h 6 = ⟨1, some (.box 28 [.b (zn c), .sl none (uL (zl c))])⟩ →
      S.σ 4 = .ptr 4 1 0 → S.h 4 = ⟨1, some (.box 28 [.b false, .sl none []])⟩ → S.h 53 = ⟨1, some (.box 75 (sqc a0 b0 1 1 neg))⟩ → S.h 9 = ⟨0, none⟩ →
      WS Tryz.prog 144 sc_zgcd_Resultant.snd.snd.snd.snd.snd.snd (retQ [(.cell 4 (some 2)), (.tmp 5)] [] (· = [.pure (Z (rsZ a b)), .pure (.i .i64 0)])) S := by
      intro a0 b0 sw neg0 Q0 hsw S s7 s6 h6 s4 h4 h53 h9
      have tail := @res_tail
      unfold sc_zgcd_Resultant at tail ⊢
      simp only [SC.snd] at tail ⊢
      clear p1 p2 mu w1 w2 c1 c2 n1 n2 dA dB
      refine Ws ?_; simp [s7, s6, h6, s4, h4, h53, h9]
      refine WS_block ?_
      refine WS_loop (RsS k0 L a0 b0 sw c) rsM ⟨k0, a0, b0, 1, 1, neg0, Q0, by simp [s7], by simp, by simp [s6], by simp [h6], by simp [s4], by simp [h4], by simp [h53], by simp [h9]⟩ ?_
      clear s7 s6 h6 s4 h4 h53 h9
      rintro S ⟨K, a1, b1, g, h, neg, Q, s7, s8, s6, h6, s4, h4, h53, h9⟩
      have dm := rsM_eq h53
      have h53' := h53
      rw [sqc] at h53
      have b1l := PZ_length b1
      have lL : b1.length ≤ L := by have h1 := Q.gb.1; rcases Q.gb.2 with ⟨h2, _⟩ | ⟨_, h2⟩ <;> omega
      have dB := gdeg (sz := some 2) (PZ b1) (by omega)
      rw [b1l] at dB
      obtain ⟨W, hW⟩ : ∃ W, W = PZ b1 := ⟨_, rfl⟩
      rw [← hW] at dB h53 b1l
      by_cases h2 : 2 ≤ b1.length
      · have hI : (1 : Int) < (b1.length : Int) := by omega
        obtain ⟨Q2, hlt, ta1, hab⟩ := rsQ_step Q h2
        have hK : K ≤ 2 ^ 13 := by
         have h3 : 3 ≤ a1.length ∨ K = k0 := by rcases Q.gb.2 with ⟨h4, _⟩ | ⟨h4, _⟩ <;> omega
         have := gcB_lim Q.gb 3 h3
         omega
        have st := gstep (neg := neg) Q.pa Q.pb Q.zg Q.zh hK ta1 Q.tb hab (by omega) (by have := Q.gb.1; omega)
        have fin2 : ∀ S' : St, S'.σ 7 = .ptr 53 1 0 → S'.σ 8 = .bnd f_zgcd_sequence_step 53 1 → S'.σ 6 = .ptr 6 1 0 → S'.h 6 = ⟨1, some (.box 28 [.b (zn c), .sl none (uL (zl c))])⟩ → S'.σ 4 = .ptr 4 1 0 → S'.h 4 = ⟨1, some (.box 28 [.b false, .sl none []])⟩ →
              S'.h 53 = ⟨1, some (.box 75 (sqc b1 (exP (tr (psD a1 b1).2) (g * h ^ (a1.length - b1.length))) (ldL b1) (stH b1 h (a1.length - b1.length)) (neg != (oddL a1 && oddL b1))))⟩ → S'.h 9 = ⟨0, none⟩ → RsS k0 L a0 b0 sw c S' ∧ rsM S' < rsM S := fun S' e7 e8 e6 g6 e4 g4 g53 g9 =>
         ⟨⟨_, _, _, _, _, _, Q2, e7, e8, e6, g6, e4, g4, g53, g9⟩, by rw [dm, rsM_eq g53]; exact hlt⟩
        rw [sqc, ← hW] at st
        refine Ws ?_; simp [s7, s8, s6, h6, s4, h4, h53, h9, hI, b1l]
        refine callK dB ?_; simp [s7, s8, s6, h6, s4, h4, h53, h9, hI, b1l]
        refine WS_cT (by simp [s7, s8, s6, h6, s4, h4, h53, h9, hI, b1l]) ?_
        refine WS_skip ?_; simp [s7, s8, s6, h6, s4, h4, h53, h9, hI, b1l]
        refine WS_block (WS_reg [] ?_); simp [s7, s8, s6, h6, s4, h4, h53, h9, hI, b1l]
        refine callG st ?_; simp [s7, s8, s6, h6, s4, h4, h53, h9, hI, b1l]
        refine fin2 _ ?_ ?_ ?_ ?_ ?_ ?_ ?_ ?_ <;> simp [s7, s8, s6, h6, s4, h4, h9]
      · have hI : ¬ (1 : Int) < (b1.length : Int) := by omega
        have hval : rsZ a b = resV b1 (a1.length - 1) h c neg ∧ (b1 = [] ∨ a1.length = a1.length - 1 + 1) := by
         by_cases hb : b1 = []
         · refine ⟨?_, .inl hb⟩
           rw [resV, if_pos hb]
           rcases Q.main with ⟨_, hz⟩ | ⟨E, I, _⟩
           · rw [su0, hsw, hz, Rat.mul_zero]
             simp
           · have := I.hb
             rw [hb] at this
             simp at this
         · have hb1 : b1.length = 1 := by have := List.length_pos_iff.2 hb; omega
           obtain ⟨e1, e2⟩ := rsQ_end Q hb1
           exact ⟨by rw [resV, if_neg hb]; exact fin neg _ sw a0 b0 e1 hsw, .inr (by omega)⟩
        have hK : K ≤ 2 ^ 15 := by
         have := gcB_lim Q.gb 2 Q.al
         omega
        have T := tail (a := a1) (g := g) (neg := neg) Q.pb Q.zh zc (by omega) Q.tb hval.2 hK (by have := Q.gb.1; omega)
        rw [← hval.1] at T
        refine Ws ?_; simp [s7, s8, s6, h6, s4, h4, h53, h9, hI, b1l]
        refine callK dB ?_; simp [s7, s8, s6, h6, s4, h4, h53, h9, hI, b1l]
        refine WS_cF (by simp [s7, s8, s6, h6, s4, h4, h53, h9, hI, b1l]) ?_
        refine WS_exit ?_; simp [s7, s8, s6, h6, s4, h4, h53, h9, hI, b1l]
        refine T _ ?_ ?_ ?_ ?_ ?_ ?_ ?_ <;> simp [s7, s6, h6, s4, h4, h53', h9]
     clear fin su0
     by_cases hlt : (tr a).length < (tr b).length
     · have ssw2 : Su x y = sg ((y.length - 1) * (x.length - 1)) * Su y x := ssw
       have hmn : m < n := by omega
       have hlI : ((m : Nat) : Int) + 1 < (n : Int) + 1 := by omega
       have es : sgB (decide (m % 2 = 1) && decide (n % 2 = 1)) = sg ((y.length - 1) * (x.length - 1)) := by
        rw [lpa, lpb, hm, hn', Nat.add_sub_cancel, Nat.add_sub_cancel, sg_odd]
        unfold sgB
        by_cases h1 : m % 2 = 1 <;> by_cases h2 : n % 2 = 1 <;> simp [h1, h2]
       have Q0 := rsQ_init (L := L) (sw := sg ((y.length - 1) * (x.length - 1))) hk qb qa tb ta (by omega) (by omega) (by omega) es
       have R := rest y x _ _ Q0 ssw2
       rw [sqc] at R
       have tA : (m : Int).tmod 2 = ((m % 2 : Nat) : Int) := rfl
       have tB : (n : Int).tmod 2 = ((n % 2 : Nat) : Int) := rfl
       clear rest ssw ssw2 es Q0
       obtain ⟨X, hX⟩ : ∃ X, X = PZ x := ⟨_, rfl⟩
       obtain ⟨Y, hY⟩ : ∃ X, X = PZ y := ⟨_, rfl⟩
       rw [← hX] at R p1
       rw [← hY] at R p2
       obtain ⟨A, hA⟩ : ∃ A, A = PZ (tr a) := ⟨_, rfl⟩
       obtain ⟨B, hB⟩ : ∃ A, A = PZ (tr b) := ⟨_, rfl⟩
       rw [← hA] at n1 al c1 dA p1
       rw [← hB] at n2 bl c2 dB p2
       obtain ⟨ng, hng⟩ : ∃ g, g = (decide (m % 2 = 1) && decide (n % 2 = 1)) := ⟨_, rfl⟩
       rw [← hng] at R
       unfold sc_zgcd_Resultant at R
       simp only [SC.snd] at R
       rw [hm] at al
       rw [hn'] at bl
       clear a65 b65 laI lbI la0 lb0 hlt
       have a65 : ¬ (65 : Int) < (m : Int) + 1 := by omega
       have b65 : ¬ (65 : Int) < (n : Int) + 1 := by omega
       have laI : ((m : Int) + 1 == 0) = false := by simp; omega
       have lbI : ((n : Int) + 1 == 0) = false := by simp; omega
       have laN : ¬ (m : Int) + 1 = 0 := by omega
       have lbN : ¬ (n : Int) + 1 = 0 := by omega
       refine spec_at Tryz.func16 ok_zgcd_Resultant [] rfl (by simp) ?_
       unfold sc_zgcd_Resultant
       by_cases hm2 : m % 2 = 1
       · have e : ng = decide (n % 2 = 1) := by rw [hng, decide_eq_true hm2, Bool.true_and]
         refine Wr ?_; simp [al, bl, a65, b65, laI, lbI, laN, lbN, hmn, hlI, tA, tB, hm2, odd_beq]
         refine Wr ?_; simp [al, bl, a65, b65, laI, lbI, laN, lbN, hmn, hlI, tA, tB, hm2, odd_beq]
         refine callK n1 ?_; simp [al, bl, a65, b65, laI, lbI, laN, lbN, hmn, hlI, tA, tB, hm2, odd_beq]
         refine callK n2 ?_; simp [al, bl, a65, b65, laI, lbI, laN, lbN, hmn, hlI, tA, tB, hm2, odd_beq]
         refine WS_seq (WS_block (Wr ?_)); simp [al, bl, a65, b65, laI, lbI, laN, lbN, hmn, hlI, tA, tB, hm2, odd_beq]
         refine WS_cF (by simp [al, bl, a65, b65, laI, lbI, laN, lbN, hmn, hlI, tA, tB, hm2, odd_beq]) ?_
         refine Wr ?_; simp [al, bl, a65, b65, laI, lbI, laN, lbN, hmn, hlI, tA, tB, hm2, odd_beq]
         refine WS_cF (by simp [al, bl, a65, b65, laI, lbI, laN, lbN, hmn, hlI, tA, tB, hm2, odd_beq]) ?_
         refine WS_skip ?_; simp [al, bl, a65, b65, laI, lbI, laN, lbN, hmn, hlI, tA, tB, hm2, odd_beq]
         refine Wr ?_; simp [al, bl, a65, b65, laI, lbI, laN, lbN, hmn, hlI, tA, tB, hm2, odd_beq]
         refine callK c1 ?_; simp [al, bl, a65, b65, laI, lbI, laN, lbN, hmn, hlI, tA, tB, hm2, odd_beq]
         refine callK dB ?_; simp [al, bl, a65, b65, laI, lbI, laN, lbN, hmn, hlI, tA, tB, hm2, odd_beq]
         refine callK w1 ?_; simp [al, bl, a65, b65, laI, lbI, laN, lbN, hmn, hlI, tA, tB, hm2, odd_beq]
         refine callK c2 ?_; simp [al, bl, a65, b65, laI, lbI, laN, lbN, hmn, hlI, tA, tB, hm2, odd_beq]
         refine callK dA ?_; simp [al, bl, a65, b65, laI, lbI, laN, lbN, hmn, hlI, tA, tB, hm2, odd_beq]
         refine callK w2 ?_; simp [al, bl, a65, b65, laI, lbI, laN, lbN, hmn, hlI, tA, tB, hm2, odd_beq]
         refine callK mu ?_; simp [al, bl, a65, b65, laI, lbI, laN, lbN, hmn, hlI, tA, tB, hm2, odd_beq]
         refine Wr ?_; simp [al, bl, a65, b65, laI, lbI, laN, lbN, hmn, hlI, tA, tB, hm2, odd_beq]
         refine callK p1 ?_; simp [al, bl, a65, b65, laI, lbI, laN, lbN, hmn, hlI, tA, tB, hm2, odd_beq]
         refine callK p2 ?_; simp [al, bl, a65, b65, laI, lbI, laN, lbN, hmn, hlI, tA, tB, hm2, odd_beq]
         refine callK o1 ?_; simp [al, bl, a65, b65, laI, lbI, laN, lbN, hmn, hlI, tA, tB, hm2, odd_beq]
         refine callK o1 ?_; simp [al, bl, a65, b65, laI, lbI, laN, lbN, hmn, hlI, tA, tB, hm2, odd_beq]
         refine Ws ?_; simp [al, bl, a65, b65, laI, lbI, laN, lbN, hmn, hlI, tA, tB, hm2, odd_beq]
         refine WS_cT (by simp [al, bl, a65, b65, laI, lbI, laN, lbN, hmn, hlI, tA, tB, hm2, odd_beq]) ?_
         refine WS_seq (WS_regD [] ?_); simp [al, bl, a65, b65, laI, lbI, laN, lbN, hmn, hlI, tA, tB, hm2, odd_beq]
         refine ⟨rfl, ?_⟩
         refine WS_reg [] ?_; simp [al, bl, a65, b65, laI, lbI, laN, lbN, hmn, hlI, tA, tB, hm2, odd_beq]
         refine callK dA ?_; simp [al, bl, a65, b65, laI, lbI, laN, lbN, hmn, hlI, tA, tB, hm2, odd_beq]
         refine callK dB ?_; simp [al, bl, a65, b65, laI, lbI, laN, lbN, hmn, hlI, tA, tB, hm2, odd_beq]
         refine R _ ?_ ?_ ?_ ?_ ?_ ?_ ?_ <;> simp [e, odd_beq]
       · have e : ng = false := by rw [hng, decide_eq_false hm2, Bool.false_and]
         have hm3 : m % 2 = 0 := by omega
         refine Wr ?_; simp [al, bl, a65, b65, laI, lbI, laN, lbN, hmn, hlI, tA, tB, hm3, odd_beq]
         refine Wr ?_; simp [al, bl, a65, b65, laI, lbI, laN, lbN, hmn, hlI, tA, tB, hm3, odd_beq]
         refine callK n1 ?_; simp [al, bl, a65, b65, laI, lbI, laN, lbN, hmn, hlI, tA, tB, hm3, odd_beq]
         refine callK n2 ?_; simp [al, bl, a65, b65, laI, lbI, laN, lbN, hmn, hlI, tA, tB, hm3, odd_beq]
         refine WS_seq (WS_block (Wr ?_)); simp [al, bl, a65, b65, laI, lbI, laN, lbN, hmn, hlI, tA, tB, hm3, odd_beq]
         refine WS_cF (by simp [al, bl, a65, b65, laI, lbI, laN, lbN, hmn, hlI, tA, tB, hm3, odd_beq]) ?_
         refine Wr ?_; simp [al, bl, a65, b65, laI, lbI, laN, lbN, hmn, hlI, tA, tB, hm3, odd_beq]
         refine WS_cF (by simp [al, bl, a65, b65, laI, lbI, laN, lbN, hmn, hlI, tA, tB, hm3, odd_beq]) ?_
         refine WS_skip ?_; simp [al, bl, a65, b65, laI, lbI, laN, lbN, hmn, hlI, tA, tB, hm3, odd_beq]
         refine Wr ?_; simp [al, bl, a65, b65, laI, lbI, laN, lbN, hmn, hlI, tA, tB, hm3, odd_beq]
         refine callK c1 ?_; simp [al, bl, a65, b65, laI, lbI, laN, lbN, hmn, hlI, tA, tB, hm3, odd_beq]
         refine callK dB ?_; simp [al, bl, a65, b65, laI, lbI, laN, lbN, hmn, hlI, tA, tB, hm3, odd_beq]
         refine callK w1 ?_; simp [al, bl, a65, b65, laI, lbI, laN, lbN, hmn, hlI, tA, tB, hm3, odd_beq]
         refine callK c2 ?_; simp [al, bl, a65, b65, laI, lbI, laN, lbN, hmn, hlI, tA, tB, hm3, odd_beq]
         refine callK dA ?_; simp [al, bl, a65, b65, laI, lbI, laN, lbN, hmn, hlI, tA, tB, hm3, odd_beq]
         refine callK w2 ?_; simp [al, bl, a65, b65, laI, lbI, laN, lbN, hmn, hlI, tA, tB, hm3, odd_beq]
         refine callK mu ?_; simp [al, bl, a65, b65, laI, lbI, laN, lbN, hmn, hlI, tA, tB, hm3, odd_beq]
         refine Wr ?_; simp [al, bl, a65, b65, laI, lbI, laN, lbN, hmn, hlI, tA, tB, hm3, odd_beq]
         refine callK p1 ?_; simp [al, bl, a65, b65, laI, lbI, laN, lbN, hmn, hlI, tA, tB, hm3, odd_beq]
         refine callK p2 ?_; simp [al, bl, a65, b65, laI, lbI, laN, lbN, hmn, hlI, tA, tB, hm3, odd_beq]
         refine callK o1 ?_; simp [al, bl, a65, b65, laI, lbI, laN, lbN, hmn, hlI, tA, tB, hm3, odd_beq]
         refine callK o1 ?_; simp [al, bl, a65, b65, laI, lbI, laN, lbN, hmn, hlI, tA, tB, hm3, odd_beq]
         refine Ws ?_; simp [al, bl, a65, b65, laI, lbI, laN, lbN, hmn, hlI, tA, tB, hm3, odd_beq]
         refine WS_cT (by simp [al, bl, a65, b65, laI, lbI, laN, lbN, hmn, hlI, tA, tB, hm3, odd_beq]) ?_
         refine WS_seq (WS_regD [] ?_); simp [al, bl, a65, b65, laI, lbI, laN, lbN, hmn, hlI, tA, tB, hm3, odd_beq]
         refine ⟨rfl, ?_⟩
         refine WS_reg [] ?_; simp [al, bl, a65, b65, laI, lbI, laN, lbN, hmn, hlI, tA, tB, hm3, odd_beq]
         refine callK dA ?_; simp [al, bl, a65, b65, laI, lbI, laN, lbN, hmn, hlI, tA, tB, hm3, odd_beq]
         refine R _ ?_ ?_ ?_ ?_ ?_ ?_ ?_ <;> simp [e, odd_beq]
     · have hmn : ¬ m < n := by omega
       have hlI : ¬ ((m : Nat) : Int) + 1 < (n : Int) + 1 := by omega
       have Q0 := rsQ_init (L := L) (sw := 1) (neg := false) hk qa qb ta tb (by omega) (by omega) (by omega) rfl
       have R := rest x y _ _ Q0 (by rw [Rat.one_mul])
       rw [sqc] at R
       clear rest ssw Q0
       obtain ⟨X, hX⟩ : ∃ X, X = PZ x := ⟨_, rfl⟩
       obtain ⟨Y, hY⟩ : ∃ X, X = PZ y := ⟨_, rfl⟩
       rw [← hX] at R p1
       rw [← hY] at R p2
       obtain ⟨A, hA⟩ : ∃ A, A = PZ (tr a) := ⟨_, rfl⟩
       obtain ⟨B, hB⟩ : ∃ A, A = PZ (tr b) := ⟨_, rfl⟩
       rw [← hA] at n1 al c1 dA p1
       rw [← hB] at n2 bl c2 dB p2
       unfold sc_zgcd_Resultant at R
       simp only [SC.snd] at R
       rw [hm] at al
       rw [hn'] at bl
       clear a65 b65 laI lbI la0 lb0 hlt
       have a65 : ¬ (65 : Int) < (m : Int) + 1 := by omega
       have b65 : ¬ (65 : Int) < (n : Int) + 1 := by omega
       have laI : ((m : Int) + 1 == 0) = false := by simp; omega
       have lbI : ((n : Int) + 1 == 0) = false := by simp; omega
       have laN : ¬ (m : Int) + 1 = 0 := by omega
       have lbN : ¬ (n : Int) + 1 = 0 := by omega
       refine spec_at Tryz.func16 ok_zgcd_Resultant [] rfl (by simp) ?_
       unfold sc_zgcd_Resultant
       refine Wr ?_; simp [al, bl, a65, b65, laI, lbI, laN, lbN, hmn, hlI]
       refine Wr ?_; simp [al, bl, a65, b65, laI, lbI, laN, lbN, hmn, hlI]
       refine callK n1 ?_; simp [al, bl, a65, b65, laI, lbI, laN, lbN, hmn, hlI]
       refine callK n2 ?_; simp [al, bl, a65, b65, laI, lbI, laN, lbN, hmn, hlI]
       refine WS_seq (WS_block (Wr ?_)); simp [al, bl, a65, b65, laI, lbI, laN, lbN, hmn, hlI]
       refine WS_cF (by simp [al, bl, a65, b65, laI, lbI, laN, lbN, hmn, hlI]) ?_
       refine Wr ?_; simp [al, bl, a65, b65, laI, lbI, laN, lbN, hmn, hlI]
       refine WS_cF (by simp [al, bl, a65, b65, laI, lbI, laN, lbN, hmn, hlI]) ?_
       refine WS_skip ?_; simp [al, bl, a65, b65, laI, lbI, laN, lbN, hmn, hlI]
       refine Wr ?_; simp [al, bl, a65, b65, laI, lbI, laN, lbN, hmn, hlI]
       refine callK c1 ?_; simp [al, bl, a65, b65, laI, lbI, laN, lbN, hmn, hlI]
       refine callK dB ?_; simp [al, bl, a65, b65, laI, lbI, laN, lbN, hmn, hlI]
       refine callK w1 ?_; simp [al, bl, a65, b65, laI, lbI, laN, lbN, hmn, hlI]
       refine callK c2 ?_; simp [al, bl, a65, b65, laI, lbI, laN, lbN, hmn, hlI]
       refine callK dA ?_; simp [al, bl, a65, b65, laI, lbI, laN, lbN, hmn, hlI]
       refine callK w2 ?_; simp [al, bl, a65, b65, laI, lbI, laN, lbN, hmn, hlI]
       refine callK mu ?_; simp [al, bl, a65, b65, laI, lbI, laN, lbN, hmn, hlI]
       refine Wr ?_; simp [al, bl, a65, b65, laI, lbI, laN, lbN, hmn, hlI]
       refine callK p1 ?_; simp [al, bl, a65, b65, laI, lbI, laN, lbN, hmn, hlI]
       refine callK p2 ?_; simp [al, bl, a65, b65, laI, lbI, laN, lbN, hmn, hlI]
       refine callK o1 ?_; simp [al, bl, a65, b65, laI, lbI, laN, lbN, hmn, hlI]
       refine callK o1 ?_; simp [al, bl, a65, b65, laI, lbI, laN, lbN, hmn, hlI]
       refine Ws ?_; simp [al, bl, a65, b65, laI, lbI, laN, lbN, hmn, hlI]
       refine WS_cF (by simp [al, bl, a65, b65, laI, lbI, laN, lbN, hmn, hlI]) ?_
       refine WS_skip ?_; simp [al, bl, a65, b65, laI, lbI, laN, lbN, hmn, hlI]
       refine R _ ?_ ?_ ?_ ?_ ?_ ?_ ?_ <;> simp
def rowZ (w : Nat) (f : Nat → Int) : List V := (List.range w).map fun j => Z (f j)
def rowsS (n w : Nat) (ρ γ : Nat → Nat) : List SV := (List.range n).map fun i => .own (ρ i + 1000) (γ (ρ i)) 0 w
theorem rowZ_length (w : Nat) (f : Nat → Int) : (rowZ w f).length = w := by simp [rowZ]
theorem rowsS_length (n w : Nat) (ρ γ : Nat → Nat) : (rowsS n w ρ γ).length = n := by simp [rowsS]
theorem rowZ_at {w : Nat} {f : Nat → Int} {j : Nat} (h : j < (rowZ w f).length) : (rowZ w f)[j] = Z (f j) := by simp [rowZ]
theorem rowsS_at {n w : Nat} {ρ γ : Nat → Nat} {i : Nat} (h : i < (rowsS n w ρ γ).length) : (rowsS n w ρ γ)[i] = .own (ρ i + 1000) (γ (ρ i)) 0 w := by simp [rowsS]
theorem rowZ_congr {w : Nat} {f g : Nat → Int} (h : ∀ j, j < w → f j = g j) : rowZ w f = rowZ w g := List.map_congr_left fun j hj => by rw [h j (by simpa using hj)]
theorem rowZ_set {w : Nat} {f : Nat → Int} (j : Nat) (x : Int) : (rowZ w f).set j (Z x) = rowZ w (fun b => if b = j then x else f b) := by
 refine List.ext_getElem (by simp [rowZ]) fun i h1 h2 => ?_
 rw [List.getElem_set]
 by_cases e : j = i
 · subst e; simp [rowZ]
 · rw [if_neg e]; simp [rowZ, Ne.symm e]
theorem rowsS_swap {n w : Nat} {ρ γ : Nat → Nat} {k p : Nat} (hkp : k ≠ p) : ((rowsS n w ρ γ).set p (.own (ρ k + 1000) (γ (ρ k)) 0 w)).set k (.own (ρ p + 1000) (γ (ρ p)) 0 w) = rowsS n w (fun i => ρ (tr2 k p i)) γ := by
 refine List.ext_getElem (by simp [rowsS]) fun i h1 h2 => ?_
 rw [List.getElem_set, List.getElem_set]
 by_cases e1 : k = i
 · subst e1; simp [rowsS, tr2]
 · rw [if_neg e1]
   by_cases e2 : p = i
   · subst e2; simp [rowsS, tr2, Ne.symm e1]
   · rw [if_neg e2]; simp [rowsS, tr2, Ne.symm e1, Ne.symm e2]
structure Mat (h : Nat → HC) (r G n w : Nat) (ρ γ : Nat → Nat) (M : Nat → Nat → Int) : Prop where
 top : h (r + 1000) = ⟨G, some (.rows 22 (rowsS n w ρ γ))⟩
 row : ∀ i, i < n → h (ρ i + 1000) = ⟨γ (ρ i), some (.arr 28 (some 2) (rowZ w (M i)))⟩
 inj : ∀ i j, i < n → j < n → ρ i = ρ j → i = j
 apart : ∀ i, i < n → ρ i ≠ r
theorem Mat.congr {h h' : Nat → HC} {r G n w : Nat} {ρ γ : Nat → Nat} {M : Nat → Nat → Int} (H : Mat h r G n w ρ γ M) (he : ∀ q, h' (q + 1000) = h (q + 1000)) : Mat h' r G n w ρ γ M :=
 ⟨by rw [he]; exact H.top, fun i hi => by rw [he]; exact H.row i hi, H.inj, H.apart⟩
theorem Mat.eqM {h : Nat → HC} {r G n w : Nat} {ρ γ : Nat → Nat} {M M' : Nat → Nat → Int} (H : Mat h r G n w ρ γ M) (he : ∀ i j, i < n → j < w → M' i j = M i j) : Mat h r G n w ρ γ M' :=
 ⟨H.top, fun i hi => by rw [H.row i hi, rowZ_congr fun j hj => (he i j hi hj).symm], H.inj, H.apart⟩
def setM (M : Nat → Nat → Int) (i j : Nat) (x : Int) (a b : Nat) : Int := if a = i ∧ b = j then x else M a b
theorem Mat.set {h h' : Nat → HC} {r G n w : Nat} {ρ γ : Nat → Nat} {M : Nat → Nat → Int} (H : Mat h r G n w ρ γ M) {i j : Nat} (hi : i < n) (x : Int)
 (h1 : h' (ρ i + 1000) = ⟨γ (ρ i), some (.arr 28 (some 2) ((rowZ w (M i)).set j (Z x)))⟩) (h2 : ∀ q, q ≠ ρ i → h' (q + 1000) = h (q + 1000)) : Mat h' r G n w ρ γ (setM M i j x) := by
 refine ⟨by rw [h2 _ (Ne.symm (H.apart i hi))]; exact H.top, fun a ha => ?_, H.inj, H.apart⟩
 by_cases e : a = i
 · subst e
   rw [h1, rowZ_set, rowZ_congr (g := setM M a j x a) fun b hb => by simp [setM]]
 · rw [h2 _ (fun e' => e (H.inj a i ha hi e')), H.row a ha, rowZ_congr (g := setM M i j x a) fun b hb => by simp [setM, e]]
theorem Mat.swap {h h' : Nat → HC} {r G n w : Nat} {ρ γ : Nat → Nat} {M : Nat → Nat → Int} (H : Mat h r G n w ρ γ M) {k p : Nat} (hk : k < n) (hp : p < n) (hkp : k ≠ p)
 (h1 : h' (r + 1000) = ⟨G, some (.rows 22 (((rowsS n w ρ γ).set p (.own (ρ k + 1000) (γ (ρ k)) 0 w)).set k (.own (ρ p + 1000) (γ (ρ p)) 0 w)))⟩) (h2 : ∀ q, q ≠ r → h' (q + 1000) = h (q + 1000)) :
 Mat h' r G n w (fun i => ρ (tr2 k p i)) γ (fun i => M (tr2 k p i)) := by
 have ht : ∀ i, i < n → tr2 k p i < n := fun i hi => by unfold tr2; split <;> (try split) <;> omega
 refine ⟨by rw [h1, rowsS_swap hkp], fun i hi => ?_, fun i j hi hj e => ?_, fun i hi => H.apart _ (ht i hi)⟩
 · show h' (ρ (tr2 k p i) + 1000) = _
   rw [h2 _ (H.apart _ (ht i hi)), H.row _ (ht i hi)]
 · have := H.inj _ _ (ht i hi) (ht j hj) e
   unfold tr2 at this
   (repeat' split at this) <;> omega
def fpM (r n : Nat) (ρ : Nat → Nat) : List Nat := (r + 1000) :: (List.range n).map fun i => ρ i + 1000
theorem fpM_big {r n : Nat} {ρ : Nat → Nat} : ∀ q ∈ fpM r n ρ, 1000 ≤ q := by
 intro q hq
 simp only [fpM, List.mem_cons, List.mem_map] at hq
 rcases hq with rfl | ⟨i, _, rfl⟩ <;> omega
theorem fpM_row {r n : Nat} {ρ : Nat → Nat} {i : Nat} (h : i < n) : ρ i + 1000 ∈ fpM r n ρ := by
 simp only [fpM, List.mem_cons, List.mem_map, List.mem_range]; exact .inr ⟨i, h, rfl⟩
theorem fpM_top {r n : Nat} {ρ : Nat → Nat} : r + 1000 ∈ fpM r n ρ := by simp [fpM]
theorem Mat.of_fp {h h2 : Nat → HC} {r G n w : Nat} {ρ γ : Nat → Nat} {M : Nat → Nat → Int} (H : Mat h r G n w ρ γ M) (he : ∀ q ∈ fpM r n ρ, h2 q = h q) : Mat h2 r G n w ρ γ M :=
 ⟨by rw [he _ fpM_top]; exact H.top, fun i hi => by rw [he _ (fpM_row hi)]; exact H.row i hi, H.inj, H.apart⟩
theorem maskH_add (h : Nat → HC) (q : Nat) : maskH h (q + 1000) = h (q + 1000) := by simp [maskH]
def DetI (h2 : Nat → HC) (r G n : Nat) (ρ0 γ : Nat → Nat) (M0 : Nat → Nat → Int) (k : Nat) (S : St) : Prop :=
 ∃ (ρ : Nat → Nat) (M : Nat → Nat → Int) (last s : Int), BrI n M0 k M last s ∧ Mat S.h r G n n ρ γ M ∧ (∀ i, i < n → ∃ i', i' < n ∧ ρ i = ρ0 i') ∧ (∀ q, q + 1000 ∉ fpM r n ρ0 → S.h (q + 1000) = h2 (q + 1000)) ∧
  S.σ 0 = .own (r + 1000) G 0 n ∧ S.σ 2 = .ptr 2 1 0 ∧ S.h 2 = ⟨1, some (.box 28 [.b false, .sl none []])⟩ ∧ S.σ 3 = .ptr 3 1 0 ∧ S.h 3 = ⟨1, some (.box 28 [.b (zn s), .sl none (uL (zl s))])⟩ ∧
  S.σ 4 = .ptr 4 1 0 ∧ S.h 4 = ⟨1, some (.box 28 [.b (zn last), .sl none (uL (zl last))])⟩ ∧ S.σ 5 = .p (.i .i64 (k : Int))
structure Kp (S S' : St) : Prop where
 k0 : S'.σ 0 = S.σ 0
 k2 : S'.σ 2 = S.σ 2
 k3 : S'.σ 3 = S.σ 3
 k4 : S'.σ 4 = S.σ 4
 k5 : S'.σ 5 = S.σ 5
 l2 : S'.h 2 = S.h 2
 l3 : S'.h 3 = S.h 3
 l4 : S'.h 4 = S.h 4
def FiI (S : St) (n k : Nat) (M : Nat → Nat → Int) (S' : St) : Prop := ∃ p, k ≤ p ∧ p ≤ n ∧ (∀ i, k ≤ i → i < p → M i k = 0) ∧ S'.h = S.h ∧ Kp S S' ∧ S'.σ 6 = .p (.i .i64 (p : Int))
attribute [local simp] acK_stuck XCore aopX acD_stuck XD HOp svCells SV.cell cloC svref svFits svPart partOkS okSV okSV1 S0H maskH_add maskH_lt retQM retPM retAllH retOneH rowsS_length rowZ_length rowsS_at rowZ_at
set_option maxHeartbeats 1000000 in
theorem det_find {Q : Exit → St → Prop} {S : St} {r G n k K : Nat} {ρ γ : Nat → Nat} {M : Nat → Nat → Int} (HM : Mat S.h r G n n ρ γ M) (hn : n ≤ 2 ^ 20) (hlt : k < n) (hz : ∀ p, k ≤ p → p < n → zlen (M p k) ≤ K) (hK : K ≤ 2 ^ 25)
 (s0 : S.σ 0 = .own (r + 1000) G 0 n) (s5 : S.σ 5 = .p (.i .i64 (k : Int))) (s6 : S.σ 6 = .p (.i .i64 (k : Int)))
 (hQ : ∀ S' p, k ≤ p → p ≤ n → (∀ i, k ≤ i → i < p → M i k = 0) → (p < n → M p k ≠ 0) → S'.h = S.h → Kp S S' → S'.σ 6 = .p (.i .i64 (p : Int)) → Q .normal S') :
 WS Tryz.prog 134 sc_ref11_Det.snd.snd.snd.fst.snd.fst.fst.snd.fst.fst.snd.fst Q S := by
 have htop := HM.top
 unfold sc_ref11_Det
 simp only [SC.snd, SC.fst]
 refine WS_block ?_
 refine WS_loop (FiI S n k M) (fun S => n - nM 6 S) ⟨k, by omega, by omega, fun i h1 h2 => by omega, rfl, ⟨rfl, rfl, rfl, rfl, rfl, rfl, rfl, rfl⟩, s6⟩ ?_
 rintro S1 ⟨p, hkp, hpn, hz0, hS, hkeep, u6⟩
 have d6 := nM_eq u6
 have u0 := hkeep.k0.trans s0
 have u5 := hkeep.k5.trans s5
 have hltI : (k : Int) < (n : Int) := by omega
 by_cases hp : p < n
 · have hpI : (p : Int) < (n : Int) := by omega
   have hrp := HM.row p hp
   have sg := rsign (isZ_of (hz p hkp hp)) (by omega)
   by_cases hm : M p k = 0
   · have hs0 : (M p k).sign = 0 := by rw [hm]; rfl
     have wp := i64_succ p (by omega)
     refine Ws ?_; simp [hS, u6, u0, u5, hp, hpI, htop, hrp, hlt, hltI, hs0, wp]
     refine callP sg rfl ?_
     simp [hS, u6, u0, u5, hp, hpI, htop, hrp, hlt, hltI, hs0, wp]
     refine WS_cT (by simp [hS, u6, u0, u5, hp, hpI, htop, hrp, hlt, hltI, hs0, wp]) ?_
     refine WS_skip ?_; simp [hS, u6, u0, u5, hp, hpI, htop, hrp, hlt, hltI, hs0, wp]
     refine WS_block (WS_reg [] ?_); simp [hS, u6, u0, u5, hp, hpI, htop, hrp, hlt, hltI, hs0, wp]
     refine ⟨⟨p + 1, by omega, by omega, fun i h1 h2 => ?_, by simp [hS], ⟨by simp [u0, s0], by simp [hkeep.k2], by simp [hkeep.k3], by simp [hkeep.k4], by simp [u5, s5], by simp [hS], by simp [hS], by simp [hS]⟩, by simp⟩, ?_⟩
     · by_cases h3 : i = p
       · rw [h3]; exact hm
       · exact hz0 i h1 (by omega)
     · rw [d6, nM_eq (i := 6) (n := p + 1) (by simp)]; omega
   · have hs0 : ¬ (M p k).sign = 0 := fun h => hm (Int.sign_eq_zero_iff_zero.1 h)
     refine Ws ?_; simp [hS, u6, u0, u5, hp, hpI, htop, hrp, hlt, hltI, hs0]
     refine callP sg rfl ?_
     simp [hS, u6, u0, u5, hp, hpI, htop, hrp, hlt, hltI, hs0]
     refine WS_cF (by simp [hS, u6, u0, u5, hp, hpI, htop, hrp, hlt, hltI, hs0]) ?_
     refine WS_exit ?_; simp [hS, u6, u0, u5, hp, hpI, htop, hrp, hlt, hltI, hs0]
     exact hQ _ p hkp hpn hz0 (fun _ => hm) (by simp [hS]) ⟨by simp [u0, s0], by simp [hkeep.k2], by simp [hkeep.k3], by simp [hkeep.k4], by simp [u5, s5], by simp [hS], by simp [hS], by simp [hS]⟩ (by simp [u6])
 · have hpI : ¬ (p : Int) < (n : Int) := by omega
   refine Ws ?_; simp [hS, u6, u0, u5, hp, hpI, htop]
   refine WS_cF (by simp [hS, u6, u0, u5, hp, hpI, htop]) ?_
   refine WS_exit ?_; simp [hS, u6, u0, u5, hp, hpI, htop]
   exact hQ _ p hkp hpn hz0 (fun h => absurd h hp) (by simp [hS]) ⟨by simp [u0, s0], by simp [hkeep.k2], by simp [hkeep.k3], by simp [hkeep.k4], by simp [u5, s5], by simp [hS], by simp [hS], by simp [hS]⟩ (by simp [u6])
def elM (k i j : Nat) (T M : Nat → Nat → Int) (a b : Nat) : Int := if k < a ∧ k < b ∧ (a < i ∨ (a = i ∧ b < j)) then T a b else M a b
theorem elM_set {k i j : Nat} {T M : Nat → Nat → Int} (hi : k < i) (hj : k < j) : setM (elM k i j T M) i j (T i j) = elM k i (j + 1) T M := by
 funext a b
 unfold setM elM
 by_cases h : a = i ∧ b = j
 · obtain ⟨rfl, rfl⟩ := h
   rw [if_pos ⟨rfl, rfl⟩, if_pos ⟨hi, hj, .inr ⟨rfl, by omega⟩⟩]
 · rw [if_neg h]
   by_cases h2 : k < a ∧ k < b ∧ (a < i ∨ (a = i ∧ b < j))
   · rw [if_pos h2, if_pos (by omega)]
   · rw [if_neg h2, if_neg (by omega)]
def ElI (S : St) (r G n k i : Nat) (ρ γ : Nat → Nat) (T M : Nat → Nat → Int) (S' : St) : Prop :=
 ∃ j, k < j ∧ j ≤ n ∧ Mat S'.h r G n n ρ γ (elM k i j T M) ∧ Kp S S' ∧ (∀ q, (∀ i, i < n → q ≠ ρ i) → S'.h (q + 1000) = S.h (q + 1000)) ∧ S'.σ 8 = .p (.i .i64 (i : Int)) ∧ S'.σ 9 = .p (.i .i64 (j : Int))
def EoI (S : St) (r G n k : Nat) (ρ γ : Nat → Nat) (T M : Nat → Nat → Int) (S' : St) : Prop :=
 ∃ i, k < i ∧ i ≤ n ∧ Mat S'.h r G n n ρ γ (elM k i 0 T M) ∧ Kp S S' ∧ (∀ q, (∀ i, i < n → q ≠ ρ i) → S'.h (q + 1000) = S.h (q + 1000)) ∧ S'.σ 8 = .p (.i .i64 (i : Int))
set_option maxHeartbeats 4000000 in
theorem det_elim {Q : Exit → St → Prop} {S : St} {r G n k K : Nat} {ρ γ : Nat → Nat} {M T : Nat → Nat → Int} {last : Int} (HM : Mat S.h r G n n ρ γ M) (hn : n ≤ 2 ^ 20) (hlt : k < n) (hl0 : last ≠ 0)
 (hT : ∀ i j, k < i → i < n → k < j → j < n → T i j * last = M k k * M i j - M i k * M k j) (zM : ∀ i j, k ≤ i → i < n → k ≤ j → j < n → zlen (M i j) ≤ K) (zl : zlen last ≤ K) (hK : K ≤ 2 ^ 25)
 (s0 : S.σ 0 = .own (r + 1000) G 0 n) (s4 : S.σ 4 = .ptr 4 1 0) (h4 : S.h 4 = ⟨1, some (.box 28 [.b (zn last), .sl none (uL (Go.Vw.zl last))])⟩) (s5 : S.σ 5 = .p (.i .i64 (k : Int)))
 (hQ : ∀ S', Mat S'.h r G n n ρ γ (elM k n 0 T M) → Kp S S' → (∀ q, (∀ i, i < n → q ≠ ρ i) → S'.h (q + 1000) = S.h (q + 1000)) → Q .normal S') :
 WS Tryz.prog 134 sc_ref11_Det.snd.snd.snd.fst.snd.fst.fst.snd.fst.fst.snd.snd.snd.snd.fst Q S := by
 have hltI : (k : Int) < (n : Int) := by omega
 have wk := i64_succ k (by omega)
 unfold sc_ref11_Det
 simp only [SC.snd, SC.fst]
 refine Wr ?_; simp [s5, wk]
 refine WS_block ?_
 refine WS_loop (EoI S r G n k ρ γ T M) (fun S => n - nM 8 S) ⟨k + 1, by omega, by omega, HM.eqM (fun i j _ _ => by unfold elM; rw [if_neg (by omega)]), ⟨by simp, by simp, by simp, by simp, by simp [s5], rfl, rfl, rfl⟩, fun _ _ => rfl, by simp⟩ ?_
 rintro S1 ⟨i, hki, hin, HM1, hkeep, hfr, u8⟩
 have d8 := nM_eq u8
 have u0 := hkeep.k0.trans s0
 have u5 := hkeep.k5.trans s5
 have htop := HM1.top
 by_cases hi : i < n
 · have hiI : (i : Int) < (n : Int) := by omega
   refine Ws ?_; simp [u8, u0, u5, hi, hiI, htop, wk]
   refine WS_cT (by simp [u8, u0, u5, hi, hiI, htop, wk]) ?_
   refine WS_skip ?_; simp [u8, u0, u5, hi, hiI, htop, wk]
   refine WS_seq (WS_block (Wr ?_)); simp [u8, u0, u5, hi, hiI, htop, wk]
   refine WS_block ?_
   refine WS_loop (ElI S r G n k i ρ γ T M) (fun S => n - nM 9 S) ⟨k + 1, by omega, by omega, HM1.eqM (fun a b _ _ => by unfold elM; congr 1; apply propext; omega), ⟨by simp [hkeep.k0], by simp [hkeep.k2], by simp [hkeep.k3], by simp [hkeep.k4], by simp [hkeep.k5], hkeep.l2, hkeep.l3, hkeep.l4⟩, hfr, by simp [u8], by simp⟩ ?_
   rintro S2 ⟨j, hkj, hjn, HM2, hkeep2, hfr2, v8, v9⟩
   have d9 := nM_eq v9
   have v0 := hkeep2.k0.trans s0
   have v5 := hkeep2.k5.trans s5
   have v4 := hkeep2.k4.trans s4
   have l4 := hkeep2.l4.trans h4
   have htop2 := HM2.top
   by_cases hj : j < n
   · have hjI : (j : Int) < (n : Int) := by omega
     have wj := i64_succ j (by omega)
     have hrk := HM2.row k hlt
     have hri := HM2.row i hi
     have ekk : elM k i j T M k k = M k k := by unfold elM; rw [if_neg (by omega)]
     have eij : elM k i j T M i j = M i j := by unfold elM; rw [if_neg (by omega)]
     have eik : elM k i j T M i k = M i k := by unfold elM; rw [if_neg (by omega)]
     have ekj : elM k i j T M k j = M k j := by unfold elM; rw [if_neg (by omega)]
     have hset := elM_set (T := T) (M := M) hki hkj
     have hTT := hT i j hki hi hkj hj
     obtain ⟨W, hW⟩ : ∃ W, W = elM k i j T M := ⟨_, rfl⟩
     rw [← hW] at hrk hri ekk eij eik ekj HM2 hset
     have z1 := zM k k (Nat.le_refl _) hlt (Nat.le_refl _) hlt
     have z2 := zM i j (by omega) hi (by omega) hj
     have z3 := zM i k (by omega) hi (Nat.le_refl _) hlt
     have z4 := zM k j (Nat.le_refl _) hlt (by omega) hj
     have mu1 := rmul (isZ_of z1) (isZ_of z2) (by omega)
     have mu2 := rmul (isZ_of z3) (isZ_of z4) (by omega)
     have q1 := zlen_mul (M k k) (M i j)
     have q2 := zlen_mul (M i k) (M k j)
     have su := rsub (isZ_of (x := M k k * M i j) (k := 2 * K) (by omega)) (isZ_of (x := M i k * M k j) (k := 2 * K) (by omega)) (by omega)
     have q3 := zlen_sub (M k k * M i j) (M i k * M k j)
     have ex := rexact (isZ_of (x := M k k * M i j - M i k * M k j) (k := 2 * K + 1) (by omega)) (isZ_of (x := last) (k := 2 * K + 1) (by omega)) (by omega)
     obtain ⟨e2, he2⟩ := exactR_exV (M k k * M i j - M i k * M k j) last
     rw [exV_of hl0 hTT] at he2
     rw [he2] at ex
     obtain ⟨x1, hx1⟩ : ∃ x, x = M k k := ⟨_, rfl⟩
     rw [← hx1] at ekk mu1 su ex
     obtain ⟨x2, hx2⟩ : ∃ x, x = M i j := ⟨_, rfl⟩
     rw [← hx2] at eij mu1 su ex
     obtain ⟨x3, hx3⟩ : ∃ x, x = M i k := ⟨_, rfl⟩
     rw [← hx3] at eik mu2 su ex
     obtain ⟨x4, hx4⟩ : ∃ x, x = M k j := ⟨_, rfl⟩
     rw [← hx4] at ekj mu2 su ex
     obtain ⟨t0, ht0⟩ : ∃ x, x = T i j := ⟨_, rfl⟩
     rw [← ht0] at ex hset
     clear q1 q2 q3 z1 z2 z3 z4 hTT he2
     refine Ws ?_; simp [v8, v9, v0, v5, v4, l4, hi, hiI, hj, hjI, hlt, hltI, htop2, hrk, hri, ekk, eij, eik, ekj, wk, wj]
     refine WS_cT (by simp [v8, v9, v0, v5, v4, l4, hi, hiI, hj, hjI, hlt, hltI, htop2, hrk, hri, ekk, eij, eik, ekj, wk, wj]) ?_
     refine WS_skip ?_; simp [v8, v9, v0, v5, v4, l4, hi, hiI, hj, hjI, hlt, hltI, htop2, hrk, hri, ekk, eij, eik, ekj, wk, wj]
     refine WS_seq (WS_block (WS_seq (WS_regD [] ?_))); simp [v8, v9, v0, v5, v4, l4, hi, hiI, hj, hjI, hlt, hltI, htop2, hrk, hri, ekk, eij, eik, ekj, wk, wj]
     refine callD mu1 rfl ?_; simp [v8, v9, v0, v5, v4, l4, hi, hiI, hj, hjI, hlt, hltI, htop2, hrk, hri, ekk, eij, eik, ekj, wk, wj]
     refine callD mu2 rfl ?_; simp [v8, v9, v0, v5, v4, l4, hi, hiI, hj, hjI, hlt, hltI, htop2, hrk, hri, ekk, eij, eik, ekj, wk, wj]
     refine callD su rfl ?_; simp [v8, v9, v0, v5, v4, l4, hi, hiI, hj, hjI, hlt, hltI, htop2, hrk, hri, ekk, eij, eik, ekj, wk, wj]
     refine ⟨by kernel_rfl, ?_⟩
     refine Wr ?_; simp [v8, v9, v0, v5, v4, l4, hi, hiI, hj, hjI, hlt, hltI, htop2, hrk, hri, ekk, eij, eik, ekj, wk, wj]
     refine callP ex rfl ?_
     simp [v8, v9, v0, v5, v4, l4, hi, hiI, hj, hjI, hlt, hltI, htop2, hrk, hri, ekk, eij, eik, ekj, wk, wj]
     refine WS_regD [] ?_; simp [v8, v9, v0, v5, v4, l4, hi, hiI, hj, hjI, hlt, hltI, htop2, hrk, hri, ekk, eij, eik, ekj, wk, wj]
     refine ⟨by kernel_rfl, ?_⟩
     refine WS_reg [] ?_; simp [v8, v9, v0, v5, v4, l4, hi, hiI, hj, hjI, hlt, hltI, htop2, hrk, hri, ekk, eij, eik, ekj, wk, wj]
     refine ⟨⟨j + 1, by omega, by omega, ?_, ⟨by simp [v0, s0], by simp [hkeep2.k2], by simp [hkeep2.k3], by simp [hkeep2.k4], by simp [v5, s5], by simp [hkeep2.l2], by simp [hkeep2.l3], by simp [hkeep2.l4]⟩, fun q hq => ?_, by simp [v8], by simp⟩, ?_⟩
     · rw [← hset]
       exact HM2.set hi t0 (by simp) fun q hq => by simp [hq]
     · have := hq i hi
       have := hfr2 q hq
       simp [*]
     · rw [d9, nM_eq (i := 9) (n := j + 1) (by simp)]; omega
   · have hjI : ¬ (j : Int) < (n : Int) := by omega
     have wi := i64_succ i (by omega)
     refine Ws ?_; simp [v8, v9, v0, v5, hi, hiI, hj, hjI, htop2, wi]
     refine WS_cF (by simp [v8, v9, v0, v5, hi, hiI, hj, hjI, htop2, wi]) ?_
     refine WS_exit ?_; simp [v8, v9, v0, v5, hi, hiI, hj, hjI, htop2, wi]
     refine WS_reg [] ?_; simp [v8, v9, v0, v5, hi, hiI, hj, hjI, htop2, wi]
     refine ⟨⟨i + 1, by omega, by omega, HM2.eqM (fun a b ha hb => ?_), ⟨by simp [v0, s0], by simp [hkeep2.k2], by simp [hkeep2.k3], by simp [hkeep2.k4], by simp [v5, s5], hkeep2.l2, hkeep2.l3, hkeep2.l4⟩, hfr2, by simp⟩, ?_⟩
     · unfold elM; congr 1; apply propext; omega
     · rw [d8, nM_eq (i := 8) (n := i + 1) (by simp)]; omega
 · have hiI : ¬ (i : Int) < (n : Int) := by omega
   refine Ws ?_; simp [u8, u0, u5, hi, hiI, htop]
   refine WS_cF (by simp [u8, u0, u5, hi, hiI, htop]) ?_
   refine WS_exit ?_; simp [u8, u0, u5, hi, hiI, htop]
   refine hQ _ (HM1.eqM fun a b ha hb => ?_) ⟨by simp [u0, s0], by simp [hkeep.k2], by simp [hkeep.k3], by simp [hkeep.k4], by simp [u5, s5], hkeep.l2, hkeep.l3, hkeep.l4⟩ hfr
   unfold elM; congr 1; apply propext; omega
set_option maxHeartbeats 4000000 in
theorem det_step {Q : Exit → St → Prop} {S : St} {h2 : Nat → HC} {r G n k K : Nat} {ρ0 ρ γ : Nat → Nat} {M0 M : Nat → Nat → Int} {last s : Int} (HB : BrI n M0 k M last s) (hp : M k k ≠ 0) (HM : Mat S.h r G n n ρ γ M) (hn : n ≤ 2 ^ 20) (hlt : k < n)
 (zM : ∀ i j, k ≤ i → i < n → k ≤ j → j < n → zlen (M i j) ≤ K) (zl : zlen last ≤ K) (hl0 : last ≠ 0) (hK : K ≤ 2 ^ 25) (hρ : ∀ i, i < n → ∃ i', i' < n ∧ ρ i = ρ0 i') (hfr : ∀ q, q + 1000 ∉ fpM r n ρ0 → S.h (q + 1000) = h2 (q + 1000))
 (s0 : S.σ 0 = .own (r + 1000) G 0 n) (s2 : S.σ 2 = .ptr 2 1 0) (h2b : S.h 2 = ⟨1, some (.box 28 [.b false, .sl none []])⟩) (s3 : S.σ 3 = .ptr 3 1 0) (h3 : S.h 3 = ⟨1, some (.box 28 [.b (zn s), .sl none (uL (Go.Vw.zl s))])⟩)
 (s4 : S.σ 4 = .ptr 4 1 0) (h4 : S.h 4 = ⟨1, some (.box 28 [.b (zn last), .sl none (uL (Go.Vw.zl last))])⟩) (s5 : S.σ 5 = .p (.i .i64 (k : Int)))
 (hQ : ∀ S', DetI h2 r G n ρ0 γ M0 (k + 1) ⟨upd S'.σ 5 (.p (.i .i64 ((k + 1 : Nat) : Int))), S'.h⟩ → S'.σ 5 = .p (.i .i64 (k : Int)) → Q .normal S') :
 WS Tryz.prog 134 sc_ref11_Det.snd.snd.snd.fst.snd.fst.fst.snd.fst.fst.snd.snd.snd.snd Q S := by
 have hltI : (k : Int) < (n : Int) := by omega
 obtain ⟨hz, hnext⟩ := brI_step HB hlt hp
 have hT : ∃ T : Nat → Nat → Int, ∀ i j, k < i → i < n → k < j → j < n → T i j * last = M k k * M i j - M i k * M k j := by
  have each : ∀ i j, ∃ z : Int, k < i → i < n → k < j → j < n → z * last = M k k * M i j - M i k * M k j := fun i j => by
   by_cases h : k < i ∧ i < n ∧ k < j ∧ j < n
   · obtain ⟨z, hz'⟩ := hz i j h.1 h.2.1 h.2.2.1 h.2.2.2
     exact ⟨z, fun _ _ _ _ => hz'⟩
   · exact ⟨0, fun a b c d => absurd ⟨a, b, c, d⟩ h⟩
  exact ⟨fun i j => Classical.choose (each i j), fun i j => Classical.choose_spec (each i j)⟩
 obtain ⟨T, hT⟩ := hT
 have hB2 := hnext (elM k n 0 T M) fun i j a b c d => by
  have := hT i j a b c d
  unfold elM; rw [if_pos (by omega)]; exact this
 refine WS_seq ?_
 refine det_elim (K := K) HM hn hlt hl0 hT zM zl hK s0 s4 h4 s5 ?_
 intro S1 HM1 hkeep hfr1
 have u0 := hkeep.k0.trans s0
 have u2 := hkeep.k2.trans s2
 have u3 := hkeep.k3.trans s3
 have u4 := hkeep.k4.trans s4
 have u5 := hkeep.k5.trans s5
 have l2 := hkeep.l2.trans h2b
 have l3 := hkeep.l3.trans h3
 have l4 := hkeep.l4.trans h4
 have htop := HM1.top
 have hrk := HM1.row k hlt
 have ekk : elM k n 0 T M k k = M k k := by unfold elM; rw [if_neg (by omega)]
 obtain ⟨W, hW⟩ : ∃ W, W = elM k n 0 T M := ⟨_, rfl⟩
 rw [← hW] at hrk ekk HM1 hB2
 obtain ⟨x1, hx1⟩ : ∃ x, x = M k k := ⟨_, rfl⟩
 rw [← hx1] at ekk hB2
 refine WS_reg [] ?_; simp [u0, u5, u4, l4, htop, hrk, ekk, hlt, hltI]
 refine hQ _ ⟨ρ, W, x1, s, hB2, HM1.congr fun q => by simp, hρ, fun q hq => ?_, by simp [u0], by simp [u2], by simp [l2], by simp [u3], by simp [l3], by simp [u4], by simp, by simp⟩ (by simp [u5])
 have := hfr1 q (fun i hi e => hq (by
  obtain ⟨i', hi', e'⟩ := hρ i hi
  rw [e, e']; exact fpM_row hi'))
 simp [this, hfr q hq]
theorem DetI.congr {h2 : Nat → HC} {r G n : Nat} {ρ0 γ : Nat → Nat} {M0 : Nat → Nat → Int} {k : Nat} {S S' : St} (H : DetI h2 r G n ρ0 γ M0 k S) (hσ : ∀ t, t < 6 → S'.σ t = S.σ t) (hh : S'.h = S.h) : DetI h2 r G n ρ0 γ M0 k S' := by
 obtain ⟨ρ, M, last, s, a, b, c, d, s0, s2, h2b, s3, h3, s4, h4, s5⟩ := H
 refine ⟨ρ, M, last, s, a, by rw [hh]; exact b, c, by rw [hh]; exact d, ?_, ?_, by rw [hh]; exact h2b, ?_, by rw [hh]; exact h3, ?_, by rw [hh]; exact h4, ?_⟩ <;> rw [hσ _ (by omega)] <;> assumption
def DtO (h2 : Nat → HC) (r G n : Nat) (ρ0 γ : Nat → Nat) (M0 : Nat → Nat → Int) (S : St) : Prop := ∃ k, k ≤ n ∧ DetI h2 r G n ρ0 γ M0 k S
set_option maxHeartbeats 4000000 in
theorem rdet {h : Nat → HC} {r G n K C : Nat} {ρ γ : Nat → Nat} {M0 : Nat → Nat → Int} (H : Mat h r G n n ρ γ M0) (hn : n ≤ 2 ^ 20) (hC : ∀ a b, (M0 a b).natAbs ≤ C)
 (hK : ∀ k, k ≤ n → ∀ z : Int, z.natAbs ≤ dB C k → zlen z ≤ K) (hK2 : K ≤ 2 ^ 25) : FrM Tryz.prog f_ref11_Det h (fpM r n ρ) [.own (r + 1000) G 0 n] (fun _ svs => svs = [.p (Z (detZ n M0))]) := by
 refine frM_at Tryz.func66 ok_ref11_Det (by simp) (by simp) fpM_big fun h2 hh => ?_
 have H2 := H.of_fp hh
 have o1 := rof 1 (by omega) (by omega)
 have o0 := rof 0 (by omega) (by omega)
 unfold sc_ref11_Det
 refine Wr ?_; simp
 refine Wr ?_; simp
 refine callP o1 rfl ?_
 simp
 refine Wr ?_; simp
 refine callP o1 rfl ?_
 simp
 refine Ws ?_; simp
 refine WS_block ?_
 refine WS_loop (DtO h2 r G n ρ γ M0) (fun S => n - nM 5 S) ⟨0, by omega, ρ, M0, 1, 1, brI_init n M0, H2.congr fun q => by simp, fun i hi => ⟨i, hi, rfl⟩, fun q _ => by simp, by simp [argSlotG], by simp, by simp, by simp, by simp, by simp, by simp, by simp⟩ ?_
 rintro S ⟨k, hk, ρ', M, last, s, HB, HM, hρ, hfr, s0, s2, h2b, s3, h3, s4, h4, s5⟩
 have d5 := nM_eq s5
 have htop := HM.top
 have hl := brI_last HB hC
 have zl := hK k hk last hl.1
 by_cases hlt : k < n
 · have hltI : (k : Int) < (n : Int) := by omega
   have wk := i64_succ k (by omega)
   have zM : ∀ i j, k ≤ i → i < n → k ≤ j → j < n → zlen (M i j) ≤ K := fun i j a b c d => hK (k + 1) (by omega) _ (brI_abs HB hC a b c d)
   refine Ws ?_; simp [s0, s5, hlt, hltI, htop]
   refine WS_cT (by simp [s0, s5, hlt, hltI, htop]) ?_
   refine WS_skip ?_; simp [s0, s5, hlt, hltI, htop]
   refine WS_seq (WS_block (Wr ?_)); simp [s0, s5, hlt, hltI, htop]
   refine WS_seq ?_
   refine det_find (K := K) HM hn hlt (fun p a b => zM p k a b (Nat.le_refl _) hlt) hK2 (by simp [s0]) (by simp [s5]) (by simp [s5]) ?_
   intro S1 p hkp hpn hz hnz hS1 hkeep u6
   have u0 := hkeep.k0.trans (show _ = SV.own (r + 1000) G 0 n by simp [s0])
   have u2 := hkeep.k2.trans (show _ = SV.ptr 2 1 0 by simp [s2])
   have u3 := hkeep.k3.trans (show _ = SV.ptr 3 1 0 by simp [s3])
   have u4 := hkeep.k4.trans (show _ = SV.ptr 4 1 0 by simp [s4])
   have u5 := hkeep.k5.trans (show _ = SV.p (.i .i64 (k : Int)) by simp [s5])
   replace hS1 : S1.h = S.h := hS1
   clear hkeep
   by_cases hpe : p = n
   · subst hpe
     have hd := brI_zero HB hlt fun i a b => hz i a b
     rw [hd]
     refine Ws ?_; simp [hS1, u0, u2, u5, u6, htop, h2b]
     refine WS_cT (by simp [hS1, u0, u2, u5, u6, htop, h2b]) ?_
     refine Wr ?_; simp [hS1, u0, u2, u5, u6, htop, h2b]
     refine callP o0 rfl ?_
     simp [hS1, u0, u2, u5, u6, htop, h2b]
     refine WS_ret ?_; simp [hS1, u0, u2, u5, u6, htop, h2b]
     exact hfr
   · have hp : p < n := by omega
     have hpI : (p : Int) < (n : Int) := by omega
     have hpe' : ¬ (p : Int) = (n : Int) := by omega
     have hnp := hnz hp
     have HM1 : Mat S1.h r G n n ρ' γ M := by rw [hS1]; exact HM
     by_cases hpk : p = k
     · subst hpk
       refine Ws ?_; simp [hS1, u0, u2, u5, u6, htop, hpe, hpe']
       refine WS_cF (by simp [hS1, u0, u2, u5, u6, htop, hpe, hpe']) ?_
       refine WS_skip ?_; simp [hS1, u0, u2, u5, u6, htop, hpe, hpe']
       refine Ws ?_; simp [hS1, u0, u2, u5, u6, htop, hpe, hpe']
       refine WS_cF (by simp [hS1, u0, u2, u5, u6, htop, hpe, hpe']) ?_
       refine WS_skip ?_; simp [hS1, u0, u2, u5, u6, htop, hpe, hpe']
       refine det_step (K := K) HB hnp HM hn hlt zM zl hl.2 hK2 hρ hfr (by simp [u0]) (by simp [u2]) h2b (by simp [u3]) h3 (by simp [u4]) h4 (by simp [u5]) ?_
       intro S3 hD hs5
       refine WS_reg [] ?_; simp [hs5, wk]
       refine ⟨⟨p + 1, by omega, hD.congr (fun t ht => ?_) rfl⟩, ?_⟩
       · simp [upd_apply, show t ≠ 19 by omega, show t ≠ 20 by omega]
       · rw [d5, nM_eq (i := 5) (n := p + 1) (by simp)]; omega
     · have hpkI : ¬ (p : Int) = (k : Int) := by omega
       have zs : zlen s ≤ 1 := by
        obtain ⟨_, _, _, _, hs, _⟩ := HB.ex
        rcases hs with h | h <;> subst h <;> exact zlen_small (by decide)
       have rn := rneg (isZ_of zs) (by omega)
       refine Ws ?_; simp [hS1, u0, u2, u3, u5, u6, htop, hpe, hpe', hp, hpI, hlt, hltI, hpk, hpkI, h3]
       refine WS_cF (by simp [hS1, u0, u2, u3, u5, u6, htop, hpe, hpe', hp, hpI, hlt, hltI, hpk, hpkI, h3]) ?_
       refine WS_skip ?_; simp [hS1, u0, u2, u3, u5, u6, htop, hpe, hpe', hp, hpI, hlt, hltI, hpk, hpkI, h3]
       refine Ws ?_; simp [hS1, u0, u2, u3, u5, u6, htop, hpe, hpe', hp, hpI, hlt, hltI, hpk, hpkI, h3]
       refine WS_cT (by simp [hS1, u0, u2, u3, u5, u6, htop, hpe, hpe', hp, hpI, hlt, hltI, hpk, hpkI, h3]) ?_
       refine Wr ?_; simp [hS1, u0, u2, u3, u5, u6, htop, hpe, hpe', hp, hpI, hlt, hltI, hpk, hpkI, h3]
       refine Wr ?_; simp [hS1, u0, u2, u3, u5, u6, htop, hpe, hpe', hp, hpI, hlt, hltI, hpk, hpkI, h3]
       refine Wr ?_; simp [hS1, u0, u2, u3, u5, u6, htop, hpe, hpe', hp, hpI, hlt, hltI, hpk, hpkI, h3]
       refine WS_reg [] ?_; simp [hS1, u0, u2, u3, u5, u6, htop, hpe, hpe', hp, hpI, hlt, hltI, hpk, hpkI, h3]
       refine callP rn rfl ?_
       simp [hS1, u0, u2, u3, u5, u6, htop, hpe, hpe', hp, hpI, hlt, hltI, hpk, hpkI, h3]
       have ht : ∀ i, k ≤ i → i < n → k ≤ tr2 k p i ∧ tr2 k p i < n := fun i hi hn => by unfold tr2; split <;> (try split) <;> omega
       have hti : ∀ i, i < n → tr2 k p i < n := fun i hi => by unfold tr2; split <;> (try split) <;> omega
       refine det_step (K := K) (h2 := h2) (ρ0 := ρ) (r := r) (G := G) (ρ := fun i => ρ' (tr2 k p i)) (γ := γ) (brI_swap HB hlt (by omega) hp) (by simpa [tr2] using hnp) (HM.swap hlt hp (by omega) (by simp) fun q hq => by simp [hq]) hn hlt (fun i j a b c d => zM _ j (ht i a b).1 (ht i a b).2 c d) zl hl.2 hK2 (fun i hi => hρ _ (hti i hi))
        (fun q hq => ?_) (by simp [u0]) (by simp [u2]) (by simp [h2b]) (by simp [u3]) (by simp) (by simp [u4]) (by simp [h4]) (by simp [u5]) ?_
       · have : q ≠ r := fun e => hq (by rw [e]; exact fpM_top)
         simp [this, hfr q hq]
       intro S3 hD hs5
       refine WS_reg [] ?_; simp [hs5, wk]
       refine ⟨⟨k + 1, by omega, hD.congr (fun t ht => ?_) rfl⟩, ?_⟩
       · simp [upd_apply, show t ≠ 19 by omega, show t ≠ 20 by omega]
       · rw [d5, nM_eq (i := 5) (n := k + 1) (by simp)]; omega
 · obtain rfl : k = n := by omega
   have hltI : ¬ (k : Int) < (k : Int) := by omega
   have hd := brI_end HB
   have zs : zlen s ≤ 1 := by
    obtain ⟨_, _, _, _, hs, _⟩ := HB.ex
    rcases hs with h | h <;> subst h <;> exact zlen_small (by decide)
   have mu := rmul (isZ_of (x := s) (k := K + 1) (by omega)) (isZ_of (x := last) (k := K + 1) (by omega)) (by omega)
   refine Ws ?_; simp [s0, s5, hltI, htop, s2, h2b, s3, h3, s4, h4]
   refine WS_cF (by simp [s0, s5, hltI, htop, s2, h2b, s3, h3, s4, h4]) ?_
   refine WS_exit ?_; simp [s0, s5, hltI, htop, s2, h2b, s3, h3, s4, h4]
   refine Wr ?_; simp [s0, s5, hltI, htop, s2, h2b, s3, h3, s4, h4]
   refine callP mu rfl ?_
   simp [s0, s5, hltI, htop, s2, h2b, s3, h3, s4, h4]
   refine WS_ret ?_; simp [s0, s5, hltI, htop, s2, h2b, s3, h3, s4, h4]
   rw [hd]
   exact ⟨hfr, rfl, rfl⟩
theorem rowsS_ren {n w r g r' g' : Nat} {ρ γ : Nat → Nat} (hr : r < 1000) : (rowsS n w ρ γ).map (ren0 r g r' g') = rowsS n w ρ γ := by
 rw [rowsS, List.map_map]
 refine List.map_congr_left fun i _ => ?_
 show (if ρ i + 1000 = r ∧ γ (ρ i) = g then _ else _) = _
 rw [if_neg (by omega)]
theorem rowsS_snoc {n w : Nat} {ρ γ : Nat → Nat} : rowsS n w ρ γ ++ [.own (ρ n + 1000) (γ (ρ n)) 0 w] = rowsS (n + 1) w ρ γ := by
 rw [rowsS, rowsS, List.range_succ, List.map_append]; rfl
theorem rowZ_zero (w : Nat) : List.replicate w (V.agg [.b false, .sl none []]) = rowZ w (fun _ => 0) := by
 refine List.ext_getElem (by simp [rowZ]) fun i h1 h2 => ?_
 rw [List.getElem_replicate]; simp [rowZ]; first | rfl | exact ⟨rfl, rfl⟩
def prt (x : List Int) (d i k j : Nat) : Int := if i ≤ j ∧ j < i + k then cf x (d - (j - i)) else 0
theorem prt_set {x : List Int} {d i k w : Nat} : rowZ w (fun b => if b = i + k then cf x (d - k) else prt x d i k b) = rowZ w (prt x d i (k + 1)) := by
 refine rowZ_congr fun j _ => ?_
 unfold prt
 by_cases h : j = i + k
 · subst h; rw [if_pos rfl, if_pos (by omega)]; congr 1; omega
 · rw [if_neg h]
   by_cases h2 : i ≤ j ∧ j < i + k
   · rw [if_pos h2, if_pos (by omega)]
   · rw [if_neg h2, if_neg (by omega)]
def RwI (h2 : Nat → HC) (w i : Nat) (M : Nat → Nat → Int) (S : St) : Prop :=
 ∃ G, S.σ 7 = .own 7 G 0 i ∧ S.h 7 = ⟨G, some (.rows 22 (rowsS i w (· + 1) fun q => (h2 (q + 1000)).g + 1))⟩ ∧
  (∀ a, a < i → S.h (a + 1 + 1000) = ⟨(h2 (a + 1 + 1000)).g + 1, some (.arr 28 (some 2) (rowZ w (M a)))⟩) ∧ (∀ q, q = 0 ∨ i < q → S.h (q + 1000) = h2 (q + 1000))
theorem RwI.congr {h2 : Nat → HC} {w i : Nat} {M : Nat → Nat → Int} {S S' : St} (H : RwI h2 w i M S) (hσ : S'.σ 7 = S.σ 7) (hh : S'.h = S.h) : RwI h2 w i M S' := by
 obtain ⟨G, a, b, c, d⟩ := H
 exact ⟨G, hσ.trans a, by rw [hh]; exact b, by rw [hh]; exact c, by rw [hh]; exact d⟩
attribute [local simp] St.elemsS
def RfIA (S1 : St) (g w i d : Nat) (x : List Int) (S' : St) : Prop :=
 ∃ k, k ≤ d + 1 ∧ S'.h 28 = ⟨g, some (.arr 28 (some 2) (rowZ w (prt x d i k)))⟩ ∧ (∀ q, q ≠ 28 → S'.h q = S1.h q) ∧ S'.σ 9 = .own 28 g 0 w ∧ S'.σ 10 = .p (.i .i64 (k : Int)) ∧
  S'.σ 0 = S1.σ 0 ∧ S'.σ 5 = S1.σ 5 ∧ S'.σ 6 = S1.σ 6 ∧ S'.σ 7 = S1.σ 7 ∧ S'.σ 8 = S1.σ 8 ∧ S'.σ 1 = S1.σ 1
def RoIA (S : St) (h2 : Nat → HC) (w i0 c : Nat) (M : Nat → Nat → Int) (S' : St) : Prop :=
 ∃ i, i ≤ c ∧ RwI h2 w (i0 + i) M S' ∧ S'.σ 8 = .p (.i .i64 (i : Int)) ∧ S'.σ 0 = S.σ 0 ∧ S'.σ 5 = S.σ 5 ∧ S'.σ 6 = S.σ 6 ∧ S'.σ 1 = S.σ 1
set_option maxHeartbeats 4000000 in
theorem rows_fillA {Q : Exit → St → Prop} {S : St} {g w i d c : Nat} {x : List Int} (hw : w = d + c) (hw2 : w ≤ 2 ^ 20) (hx : x.length = d + 1) (hic : i < c)
 (sP : S.σ 0 = .p (.sl (some 2) (PZ x))) (sD : S.σ 5 = .p (.i .i64 (d : Int))) (sI : S.σ 8 = .p (.i .i64 (i : Int))) (sR : S.σ 9 = .own 28 g 0 w) (hr : S.h 28 = ⟨g, some (.arr 28 (some 2) (rowZ w (fun _ => 0)))⟩)
 (hQ : ∀ S', RfIA S g w i d x S' → S'.h 28 = ⟨g, some (.arr 28 (some 2) (rowZ w (prt x d i (d + 1))))⟩ → Q .normal S') :
 WS Tryz.prog 79 sc_ref11_rows.snd.snd.snd.snd.fst.snd.fst.fst.snd.fst.fst.snd.fst Q S := by
 have hxl := PZ_length x
 unfold sc_ref11_rows
 simp only [SC.snd, SC.fst]
 refine Wr ?_; simp
 refine WS_block ?_
 refine WS_loop (RfIA S g w i d x) (fun S => d + 1 - nM 10 S) ⟨0, by omega, by rw [show S.h 28 = _ from hr]; congr 3; exact rowZ_congr fun j _ => by unfold prt; rw [if_neg (by omega)], fun _ _ => rfl, by simp [sR], by simp, by simp, by simp, by simp, by simp, by simp, by simp⟩ ?_
 rintro S1 ⟨k, hk, h28, hoth, uR, uK, uP, u5, u6, u7, uI, uO⟩
 have dK := nM_eq uK
 have vP := uP.trans sP
 have vD := (u5).trans sD
 have vI := uI.trans sI
 by_cases hlt : k < d + 1
 · have hltI : (k : Int) ≤ (d : Int) := by omega
   have hle : k ≤ d := by omega
   have wk := i64_succ k (by omega)
   have wa := i64_addn i k (by omega)
   have ws : IntKind.i64.wrap ((d : Int) - (k : Int)) = ((d - k : Nat) : Int) := by rw [i64_int _ (by omega) (by omega)]; omega
   have hdk : d - k < x.length := by omega
   have hg := PZ_get x (d - k) (by rw [hxl]; exact hdk)
   have hset := prt_set (x := x) (d := d) (i := i) (k := k) (w := w)
   rw [← rowZ_set, Z_eq] at hset
   obtain ⟨W, hW⟩ : ∃ W, W = PZ x := ⟨_, rfl⟩
   rw [← hW] at hxl vP
   simp only [← hW] at hg
   obtain ⟨y, hy⟩ : ∃ y, y = cf x (d - k) := ⟨_, rfl⟩
   rw [← hy] at hg hset
   have hik : i + k < w := by omega
   have hikI : (i : Int) + (k : Int) < (w : Int) := by omega
   have hikI0 : (0 : Int) ≤ (i : Int) + (k : Int) := by omega
   have hikN : ((i : Int) + (k : Int)).toNat = i + k := by omega
   rw [hx] at hxl
   have hg2 : W[d - k]? = some (V.agg [.b (zn y), .sl none (uL (zl y))]) := by rw [List.getElem?_eq_getElem (by rw [hxl]; omega), hg]
   have hdkI : ((d - k : Nat) : Int) < (d : Int) + 1 := by omega
   refine Ws ?_; simp [uK, uR, vP, vD, vI, h28, hle, hltI, wk, wa, ws, hxl, hg2, hdkI, hik, hikI, hikI0, hikN]
   refine WS_cT (by simp [uK, uR, vP, vD, vI, h28, hle, hltI, wk, wa, ws, hxl, hg2, hdkI, hik, hikI, hikI0, hikN]) ?_
   refine WS_skip ?_; simp [uK, uR, vP, vD, vI, h28, hle, hltI, wk, wa, ws, hxl, hg2, hdkI, hik, hikI, hikI0, hikN]
   refine WS_seq (WS_block (WS_reg [] ?_)); simp [uK, uR, vP, vD, vI, h28, hle, hltI, wk, wa, ws, hxl, hg2, hdkI, hik, hikI, hikI0, hikN]
   refine WS_reg [] ?_; simp [uK, uR, vP, vD, vI, h28, hle, hltI, wk, wa, ws, hxl, hg2, hdkI, hik, hikI, hikI0, hikN]
   refine ⟨⟨k + 1, by omega, by simp [hset], fun q hq => by simp [hq, hoth q hq], by simp [uR], by simp, by simp [uP], by simp [u5], by simp [u6], by simp [u7], by simp [uI], by simp [uO]⟩, ?_⟩
   rw [dK, nM_eq (i := 10) (n := k + 1) (by simp)]; omega
 · have hkd : k = d + 1 := by omega
   have hltI : ¬ (k : Int) ≤ (d : Int) := by omega
   have hle : ¬ k ≤ d := by omega
   refine Ws ?_; simp [uK, vD, hle, hltI]
   refine WS_cF (by simp [uK, vD, hle, hltI]) ?_
   refine WS_exit ?_; simp [uK, vD, hle, hltI]
   subst hkd
   exact hQ _ ⟨d + 1, by omega, h28, hoth, by simp [uR], by simp [uK], by simp [uP], by simp [u5], by simp [u6], by simp [u7], by simp [uI], by simp [uO]⟩ h28
set_option maxHeartbeats 4000000 in
theorem rows_A {Q : Exit → St → Prop} {S : St} {h2 : Nat → HC} {w i0 d c : Nat} {M : Nat → Nat → Int} {x : List Int} (HR : RwI h2 w i0 M S) (hw : w = d + c) (hw2 : w ≤ 2 ^ 20) (hi0 : i0 ≤ 2 ^ 20) (hx : x.length = d + 1)
 (hfree : ∀ q, q ≤ i0 + c → (h2 (q + 1000)).o = none)
 (sP : S.σ 0 = .p (.sl (some 2) (PZ x))) (sD : S.σ 5 = .p (.i .i64 (d : Int))) (sC : S.σ 6 = .p (.i .i64 (c : Int)))
 {vo : V} (sO : S.σ 1 = .p vo)
 (hM : ∀ i j, i < c → j < w → M (i0 + i) j = prt x d i (d + 1) j)
 (hQ : ∀ S', RwI h2 w (i0 + c) M S' → S'.σ 0 = S.σ 0 → S'.σ 5 = S.σ 5 → S'.σ 6 = S.σ 6 → S'.σ 1 = S.σ 1 → Q .normal S') :
 WS Tryz.prog 79 sc_ref11_rows.snd.snd.snd.snd.fst Q S := by
 have hxl := PZ_length x
 unfold sc_ref11_rows
 simp only [SC.snd, SC.fst]
 refine Wr ?_; simp
 refine WS_block ?_
 refine WS_loop (RoIA S h2 w i0 c M) (fun S => c - nM 8 S) ⟨0, by omega, HR.congr (by simp) rfl, by simp, by simp, by simp, by simp, by simp⟩ ?_
 rintro S1 ⟨i, hi, HR1, u8, uP, u5, u6, uO⟩
 have d8 := nM_eq u8
 have vP := uP.trans sP
 have vD := (u5).trans sD
 have vC := (u6).trans sC
 by_cases hlt : i < c
 · have hltI : (i : Int) < (c : Int) := by omega
   have wi := i64_succ i (by omega)
   have wa := i64_addn d c (by omega)
   have hb : (d + c) * 32 ≤ 2 ^ 47 ∧ d + c ≤ 2 ^ 47 := by omega
   have hwN : ((d : Int) + (c : Int)).toNat = w := by omega
   have hz := rowZ_zero w
   refine Ws ?_; simp [u8, vC, vD, hlt, hltI, wa, hwN, hz]
   refine WS_cT (by simp [u8, vC, vD, hlt, hltI, wa, hwN, hz]) ?_
   refine WS_skip ?_; simp [u8, vC, vD, hlt, hltI, wa, hwN, hz]
   refine WS_seq (WS_block (Wr ?_)); simp [u8, vC, vD, hlt, hltI, wa, hwN, hz]
   refine ⟨by omega, ?_⟩
   refine WS_seq ?_
   refine rows_fillA (g := (S1.h 28).g + 1) (c := c) hw hw2 hx hlt (by simp [vP]) (by simp [vD]) (by simp [u8]) (by simp) (by simp) ?_
   rintro S2 ⟨k, hk, _, hoth, vR, vK, v0, v5, v6, v7, vI, vO⟩ hrow
   obtain ⟨G, s7, h7, hrows, hfr⟩ := HR1
   have k7 : S2.h 7 = ⟨G, some (.rows 22 (rowsS (i0 + i) w (· + 1) fun q => (h2 (q + 1000)).g + 1))⟩ := (hoth 7 (by decide)).trans (by simp [h7])
   have kq : ∀ q, S2.h (q + 1000) = S1.h (q + 1000) := fun q => (hoth _ (by omega)).trans (by simp)
   have kn : S2.h (i0 + i + 1 + 1000) = h2 (i0 + i + 1 + 1000) := (kq _).trans (hfr _ (.inr (by omega)))
   show WS Tryz.prog 79 _ _ S2
   refine WS_move 28 (i0 + i + 1 + 1000) (by rw [hrow]) (by rw [kn]; exact hfree _ (by omega)) (by decide) (by omega) (by simp [HObj.refs]) ?_
   have m7 : (S2.move 28 (i0 + i + 1 + 1000)).σ 7 = .own 7 G 0 (i0 + i) := by simp [St.move, v7, s7, ren2, ren1, ren0]
   have mR : (S2.move 28 (i0 + i + 1 + 1000)).σ 9 = .own (i0 + i + 1 + 1000) ((h2 (i0 + i + 1 + 1000)).g + 1) 0 w := by simp [St.move, vR, ren2, ren1, ren0, hrow, kn]
   have mI : (S2.move 28 (i0 + i + 1 + 1000)).σ 8 = .p (.i .i64 (i : Int)) := by simp [St.move, vI, u8, ren2, ren1, ren0]
   have mP : (S2.move 28 (i0 + i + 1 + 1000)).σ 0 = S.σ 0 := by rw [sP]; simp [St.move, v0, vP, ren2, ren1, ren0]
   have mD : (S2.move 28 (i0 + i + 1 + 1000)).σ 5 = S.σ 5 := by rw [sD]; simp [St.move, v5, vD, ren2, ren1, ren0]
   have mC : (S2.move 28 (i0 + i + 1 + 1000)).σ 6 = S.σ 6 := by rw [sC]; simp [St.move, v6, vC, ren2, ren1, ren0]
   have mO : (S2.move 28 (i0 + i + 1 + 1000)).σ 1 = S.σ 1 := by rw [sO]; simp [St.move, vO, uO, sO, ren2, ren1, ren0]
   have mh7 : (S2.move 28 (i0 + i + 1 + 1000)).h 7 = ⟨G, some (.rows 22 (rowsS (i0 + i) w (· + 1) fun q => (h2 (q + 1000)).g + 1))⟩ := by simp [St.move, k7, HObj.ren, rowsS_ren]
   have mhn : (S2.move 28 (i0 + i + 1 + 1000)).h (i0 + i + 1 + 1000) = ⟨(h2 (i0 + i + 1 + 1000)).g + 1, some (.arr 28 (some 2) (rowZ w (prt x d i (d + 1))))⟩ := by simp [St.move, hrow, kn]
   have mhq : ∀ q, q ≠ i0 + i + 1 → (S2.move 28 (i0 + i + 1 + 1000)).h (q + 1000) = S1.h (q + 1000) := fun q hq => by
    have h1 : ¬ q + 1000 = 28 := by omega
    have h2 : ¬ q + 1000 < 1000 := by omega
    simp [St.move, hq, h1, h2, kq]
   obtain ⟨S3, hS3⟩ : ∃ S3, S3 = S2.move 28 (i0 + i + 1 + 1000) := ⟨_, rfl⟩
   rw [← hS3] at m7 mR mI mP mD mC mO mh7 mhn ⊢
   simp only [← hS3] at mhq
   have hb2 : (i0 + i + 1) * 24 ≤ 2 ^ 47 ∧ i0 + i + 1 ≤ 2 ^ 47 := by omega
   have htk : (rowsS (i0 + i) w (· + 1) fun q => (h2 (q + 1000)).g + 1).take (i0 + i) = rowsS (i0 + i) w (· + 1) fun q => (h2 (q + 1000)).g + 1 := List.take_of_length_le (by simp)
   refine WS_reg [] ?_; simp [m7, mR, mh7, htk]
   refine ⟨by omega, ?_⟩
   refine WS_reg [] ?_; simp [mI, wi]
   refine ⟨⟨i + 1, by omega, ⟨G + 1, by simp [Nat.add_assoc], by simp; exact rowsS_snoc, fun a ha => ?_, fun q hq => ?_⟩, by simp, by simp [mP], by simp [mD], by simp [mC], by simp [mO]⟩, ?_⟩
   · by_cases ha2 : a = i0 + i
     · subst ha2
       simp only [upd_apply]
       rw [if_neg (by omega), if_neg (by omega), mhn, rowZ_congr fun j hj => (hM i j hlt hj).symm]
     · simp only [upd_apply]
       rw [if_neg (by omega), if_neg (by omega), mhq _ (by omega)]
       exact hrows a (by omega)
   · simp only [upd_apply]
     rw [if_neg (by omega), if_neg (by omega), mhq _ (by omega)]
     exact hfr q (by omega)
   · rw [d8, nM_eq (i := 8) (n := i + 1) (by simp)]; omega
 · obtain rfl : i = c := by omega
   have hltI : ¬ (i : Int) < (i : Int) := by omega
   refine Ws ?_; simp [u8, vC, hltI]
   refine WS_cF (by simp [u8, vC, hltI]) ?_
   refine WS_exit ?_; simp [u8, vC, hltI]
   exact hQ _ (HR1.congr (by simp) rfl) (by simp [uP]) (by simp [u5]) (by simp [u6]) (by simp [uO])
def RfIB (S1 : St) (g w i d : Nat) (x : List Int) (S' : St) : Prop :=
 ∃ k, k ≤ d + 1 ∧ S'.h 57 = ⟨g, some (.arr 28 (some 2) (rowZ w (prt x d i k)))⟩ ∧ (∀ q, q ≠ 57 → S'.h q = S1.h q) ∧ S'.σ 12 = .own 57 g 0 w ∧ S'.σ 13 = .p (.i .i64 (k : Int)) ∧
  S'.σ 1 = S1.σ 1 ∧ S'.σ 5 = S1.σ 5 ∧ S'.σ 6 = S1.σ 6 ∧ S'.σ 7 = S1.σ 7 ∧ S'.σ 11 = S1.σ 11 ∧ S'.σ 0 = S1.σ 0
def RoIB (S : St) (h2 : Nat → HC) (w i0 c : Nat) (M : Nat → Nat → Int) (S' : St) : Prop :=
 ∃ i, i ≤ c ∧ RwI h2 w (i0 + i) M S' ∧ S'.σ 11 = .p (.i .i64 (i : Int)) ∧ S'.σ 1 = S.σ 1 ∧ S'.σ 5 = S.σ 5 ∧ S'.σ 6 = S.σ 6 ∧ S'.σ 0 = S.σ 0
set_option maxHeartbeats 4000000 in
theorem rows_fillB {Q : Exit → St → Prop} {S : St} {g w i d c : Nat} {x : List Int} (hw : w = d + c) (hw2 : w ≤ 2 ^ 20) (hx : x.length = d + 1) (hic : i < c)
 (sP : S.σ 1 = .p (.sl (some 2) (PZ x))) (sD : S.σ 6 = .p (.i .i64 (d : Int))) (sI : S.σ 11 = .p (.i .i64 (i : Int))) (sR : S.σ 12 = .own 57 g 0 w) (hr : S.h 57 = ⟨g, some (.arr 28 (some 2) (rowZ w (fun _ => 0)))⟩)
 (hQ : ∀ S', RfIB S g w i d x S' → S'.h 57 = ⟨g, some (.arr 28 (some 2) (rowZ w (prt x d i (d + 1))))⟩ → Q .normal S') :
 WS Tryz.prog 79 sc_ref11_rows.snd.snd.snd.snd.snd.fst.snd.fst.fst.snd.fst.fst.snd.fst Q S := by
 have hxl := PZ_length x
 unfold sc_ref11_rows
 simp only [SC.snd, SC.fst]
 refine Wr ?_; simp
 refine WS_block ?_
 refine WS_loop (RfIB S g w i d x) (fun S => d + 1 - nM 13 S) ⟨0, by omega, by rw [show S.h 57 = _ from hr]; congr 3; exact rowZ_congr fun j _ => by unfold prt; rw [if_neg (by omega)], fun _ _ => rfl, by simp [sR], by simp, by simp, by simp, by simp, by simp, by simp, by simp⟩ ?_
 rintro S1 ⟨k, hk, h28, hoth, uR, uK, uP, u5, u6, u7, uI, uO⟩
 have dK := nM_eq uK
 have vP := uP.trans sP
 have vD := (u6).trans sD
 have vI := uI.trans sI
 by_cases hlt : k < d + 1
 · have hltI : (k : Int) ≤ (d : Int) := by omega
   have hle : k ≤ d := by omega
   have wk := i64_succ k (by omega)
   have wa := i64_addn i k (by omega)
   have ws : IntKind.i64.wrap ((d : Int) - (k : Int)) = ((d - k : Nat) : Int) := by rw [i64_int _ (by omega) (by omega)]; omega
   have hdk : d - k < x.length := by omega
   have hg := PZ_get x (d - k) (by rw [hxl]; exact hdk)
   have hset := prt_set (x := x) (d := d) (i := i) (k := k) (w := w)
   rw [← rowZ_set, Z_eq] at hset
   obtain ⟨W, hW⟩ : ∃ W, W = PZ x := ⟨_, rfl⟩
   rw [← hW] at hxl vP
   simp only [← hW] at hg
   obtain ⟨y, hy⟩ : ∃ y, y = cf x (d - k) := ⟨_, rfl⟩
   rw [← hy] at hg hset
   have hik : i + k < w := by omega
   have hikI : (i : Int) + (k : Int) < (w : Int) := by omega
   have hikI0 : (0 : Int) ≤ (i : Int) + (k : Int) := by omega
   have hikN : ((i : Int) + (k : Int)).toNat = i + k := by omega
   rw [hx] at hxl
   have hg2 : W[d - k]? = some (V.agg [.b (zn y), .sl none (uL (zl y))]) := by rw [List.getElem?_eq_getElem (by rw [hxl]; omega), hg]
   have hdkI : ((d - k : Nat) : Int) < (d : Int) + 1 := by omega
   refine Ws ?_; simp [uK, uR, vP, vD, vI, h28, hle, hltI, wk, wa, ws, hxl, hg2, hdkI, hik, hikI, hikI0, hikN]
   refine WS_cT (by simp [uK, uR, vP, vD, vI, h28, hle, hltI, wk, wa, ws, hxl, hg2, hdkI, hik, hikI, hikI0, hikN]) ?_
   refine WS_skip ?_; simp [uK, uR, vP, vD, vI, h28, hle, hltI, wk, wa, ws, hxl, hg2, hdkI, hik, hikI, hikI0, hikN]
   refine WS_seq (WS_block (WS_reg [] ?_)); simp [uK, uR, vP, vD, vI, h28, hle, hltI, wk, wa, ws, hxl, hg2, hdkI, hik, hikI, hikI0, hikN]
   refine WS_reg [] ?_; simp [uK, uR, vP, vD, vI, h28, hle, hltI, wk, wa, ws, hxl, hg2, hdkI, hik, hikI, hikI0, hikN]
   refine ⟨⟨k + 1, by omega, by simp [hset], fun q hq => by simp [hq, hoth q hq], by simp [uR], by simp, by simp [uP], by simp [u5], by simp [u6], by simp [u7], by simp [uI], by simp [uO]⟩, ?_⟩
   rw [dK, nM_eq (i := 13) (n := k + 1) (by simp)]; omega
 · have hkd : k = d + 1 := by omega
   have hltI : ¬ (k : Int) ≤ (d : Int) := by omega
   have hle : ¬ k ≤ d := by omega
   refine Ws ?_; simp [uK, vD, hle, hltI]
   refine WS_cF (by simp [uK, vD, hle, hltI]) ?_
   refine WS_exit ?_; simp [uK, vD, hle, hltI]
   subst hkd
   exact hQ _ ⟨d + 1, by omega, h28, hoth, by simp [uR], by simp [uK], by simp [uP], by simp [u5], by simp [u6], by simp [u7], by simp [uI], by simp [uO]⟩ h28
set_option maxHeartbeats 4000000 in
theorem rows_B {Q : Exit → St → Prop} {S : St} {h2 : Nat → HC} {w i0 d c : Nat} {M : Nat → Nat → Int} {x : List Int} (HR : RwI h2 w i0 M S) (hw : w = d + c) (hw2 : w ≤ 2 ^ 20) (hi0 : i0 ≤ 2 ^ 20) (hx : x.length = d + 1)
 (hfree : ∀ q, q ≤ i0 + c → (h2 (q + 1000)).o = none)
 (sP : S.σ 1 = .p (.sl (some 2) (PZ x))) (sD : S.σ 6 = .p (.i .i64 (d : Int))) (sC : S.σ 5 = .p (.i .i64 (c : Int)))
 {vo : V} (sO : S.σ 0 = .p vo)
 (hM : ∀ i j, i < c → j < w → M (i0 + i) j = prt x d i (d + 1) j)
 (hQ : ∀ S', RwI h2 w (i0 + c) M S' → S'.σ 1 = S.σ 1 → S'.σ 5 = S.σ 5 → S'.σ 6 = S.σ 6 → S'.σ 0 = S.σ 0 → Q .normal S') :
 WS Tryz.prog 79 sc_ref11_rows.snd.snd.snd.snd.snd.fst Q S := by
 have hxl := PZ_length x
 unfold sc_ref11_rows
 simp only [SC.snd, SC.fst]
 refine Wr ?_; simp
 refine WS_block ?_
 refine WS_loop (RoIB S h2 w i0 c M) (fun S => c - nM 11 S) ⟨0, by omega, HR.congr (by simp) rfl, by simp, by simp, by simp, by simp, by simp⟩ ?_
 rintro S1 ⟨i, hi, HR1, u8, uP, u5, u6, uO⟩
 have d8 := nM_eq u8
 have vP := uP.trans sP
 have vD := (u6).trans sD
 have vC := (u5).trans sC
 by_cases hlt : i < c
 · have hltI : (i : Int) < (c : Int) := by omega
   have wi := i64_succ i (by omega)
   have wa := i64_addn c d (by omega)
   have hb : (c + d) * 32 ≤ 2 ^ 47 ∧ c + d ≤ 2 ^ 47 := by omega
   have hwN : ((c : Int) + (d : Int)).toNat = w := by omega
   have hz := rowZ_zero w
   refine Ws ?_; simp [u8, vC, vD, hlt, hltI, wa, hwN, hz]
   refine WS_cT (by simp [u8, vC, vD, hlt, hltI, wa, hwN, hz]) ?_
   refine WS_skip ?_; simp [u8, vC, vD, hlt, hltI, wa, hwN, hz]
   refine WS_seq (WS_block (Wr ?_)); simp [u8, vC, vD, hlt, hltI, wa, hwN, hz]
   refine ⟨by omega, ?_⟩
   refine WS_seq ?_
   refine rows_fillB (g := (S1.h 57).g + 1) (c := c) hw hw2 hx hlt (by simp [vP]) (by simp [vD]) (by simp [u8]) (by simp) (by simp) ?_
   rintro S2 ⟨k, hk, _, hoth, vR, vK, v0, v5, v6, v7, vI, vO⟩ hrow
   obtain ⟨G, s7, h7, hrows, hfr⟩ := HR1
   have k7 : S2.h 7 = ⟨G, some (.rows 22 (rowsS (i0 + i) w (· + 1) fun q => (h2 (q + 1000)).g + 1))⟩ := (hoth 7 (by decide)).trans (by simp [h7])
   have kq : ∀ q, S2.h (q + 1000) = S1.h (q + 1000) := fun q => (hoth _ (by omega)).trans (by simp)
   have kn : S2.h (i0 + i + 1 + 1000) = h2 (i0 + i + 1 + 1000) := (kq _).trans (hfr _ (.inr (by omega)))
   show WS Tryz.prog 79 _ _ S2
   refine WS_move 57 (i0 + i + 1 + 1000) (by rw [hrow]) (by rw [kn]; exact hfree _ (by omega)) (by decide) (by omega) (by simp [HObj.refs]) ?_
   have m7 : (S2.move 57 (i0 + i + 1 + 1000)).σ 7 = .own 7 G 0 (i0 + i) := by simp [St.move, v7, s7, ren2, ren1, ren0]
   have mR : (S2.move 57 (i0 + i + 1 + 1000)).σ 12 = .own (i0 + i + 1 + 1000) ((h2 (i0 + i + 1 + 1000)).g + 1) 0 w := by simp [St.move, vR, ren2, ren1, ren0, hrow, kn]
   have mI : (S2.move 57 (i0 + i + 1 + 1000)).σ 11 = .p (.i .i64 (i : Int)) := by simp [St.move, vI, u8, ren2, ren1, ren0]
   have mP : (S2.move 57 (i0 + i + 1 + 1000)).σ 1 = S.σ 1 := by rw [sP]; simp [St.move, v0, vP, ren2, ren1, ren0]
   have mD : (S2.move 57 (i0 + i + 1 + 1000)).σ 6 = S.σ 6 := by rw [sD]; simp [St.move, v6, vD, ren2, ren1, ren0]
   have mC : (S2.move 57 (i0 + i + 1 + 1000)).σ 5 = S.σ 5 := by rw [sC]; simp [St.move, v5, vC, ren2, ren1, ren0]
   have mO : (S2.move 57 (i0 + i + 1 + 1000)).σ 0 = S.σ 0 := by rw [sO]; simp [St.move, vO, uO, sO, ren2, ren1, ren0]
   have mh7 : (S2.move 57 (i0 + i + 1 + 1000)).h 7 = ⟨G, some (.rows 22 (rowsS (i0 + i) w (· + 1) fun q => (h2 (q + 1000)).g + 1))⟩ := by simp [St.move, k7, HObj.ren, rowsS_ren]
   have mhn : (S2.move 57 (i0 + i + 1 + 1000)).h (i0 + i + 1 + 1000) = ⟨(h2 (i0 + i + 1 + 1000)).g + 1, some (.arr 28 (some 2) (rowZ w (prt x d i (d + 1))))⟩ := by simp [St.move, hrow, kn]
   have mhq : ∀ q, q ≠ i0 + i + 1 → (S2.move 57 (i0 + i + 1 + 1000)).h (q + 1000) = S1.h (q + 1000) := fun q hq => by
    have h1 : ¬ q + 1000 = 57 := by omega
    have h2 : ¬ q + 1000 < 1000 := by omega
    simp [St.move, hq, h1, h2, kq]
   obtain ⟨S3, hS3⟩ : ∃ S3, S3 = S2.move 57 (i0 + i + 1 + 1000) := ⟨_, rfl⟩
   rw [← hS3] at m7 mR mI mP mD mC mO mh7 mhn ⊢
   simp only [← hS3] at mhq
   have hb2 : (i0 + i + 1) * 24 ≤ 2 ^ 47 ∧ i0 + i + 1 ≤ 2 ^ 47 := by omega
   have htk : (rowsS (i0 + i) w (· + 1) fun q => (h2 (q + 1000)).g + 1).take (i0 + i) = rowsS (i0 + i) w (· + 1) fun q => (h2 (q + 1000)).g + 1 := List.take_of_length_le (by simp)
   refine WS_reg [] ?_; simp [m7, mR, mh7, htk]
   refine ⟨by omega, ?_⟩
   refine WS_reg [] ?_; simp [mI, wi]
   refine ⟨⟨i + 1, by omega, ⟨G + 1, by simp [Nat.add_assoc], by simp; exact rowsS_snoc, fun a ha => ?_, fun q hq => ?_⟩, by simp, by simp [mP], by simp [mC], by simp [mD], by simp [mO]⟩, ?_⟩
   · by_cases ha2 : a = i0 + i
     · subst ha2
       simp only [upd_apply]
       rw [if_neg (by omega), if_neg (by omega), mhn, rowZ_congr fun j hj => (hM i j hlt hj).symm]
     · simp only [upd_apply]
       rw [if_neg (by omega), if_neg (by omega), mhq _ (by omega)]
       exact hrows a (by omega)
   · simp only [upd_apply]
     rw [if_neg (by omega), if_neg (by omega), mhq _ (by omega)]
     exact hfr q (by omega)
   · rw [d8, nM_eq (i := 11) (n := i + 1) (by simp)]; omega
 · obtain rfl : i = c := by omega
   have hltI : ¬ (i : Int) < (i : Int) := by omega
   refine Ws ?_; simp [u8, vC, hltI]
   refine WS_cF (by simp [u8, vC, hltI]) ?_
   refine WS_exit ?_; simp [u8, vC, hltI]
   exact hQ _ (HR1.congr (by simp) rfl) (by simp [uP]) (by simp [u5]) (by simp [u6]) (by simp [uO])
theorem subM_fst {x y : List Int} {m n i j : Nat} (hi : i < n) (hj : j < m + n) (hx : x.length = m + 1) : subM x y m n 0 0 i j = prt x m i (m + 1) j := by
 have hc : colf (m + n - 0 - 1) 0 (m + n - 2 * 0) j = m + n - 1 - j := by unfold colf; split <;> omega
 unfold subM prt shZ
 rw [if_pos (by omega), hc]
 by_cases h : i ≤ j ∧ j < i + (m + 1)
 · rw [if_pos h, if_pos (by omega)]; congr 1; omega
 · rw [if_neg h]
   split
   · exact cf_ge (by omega)
   · rfl
theorem subM_snd {x y : List Int} {m n i j : Nat} (hi : i < m) (hj : j < m + n) (hy : y.length = n + 1) : subM x y m n 0 0 (n + i) j = prt y n i (n + 1) j := by
 have hc : colf (m + n - 0 - 1) 0 (m + n - 2 * 0) j = m + n - 1 - j := by unfold colf; split <;> omega
 unfold subM prt shZ
 rw [if_neg (by omega), if_pos (by omega), hc]
 by_cases h : i ≤ j ∧ j < i + (n + 1)
 · rw [if_pos h, if_pos (by omega)]; congr 1; omega
 · rw [if_neg h]
   split
   · exact cf_ge (by omega)
   · rfl
theorem rowsS_refs {n w : Nat} {ρ γ : Nat → Nat} : ∀ q ∈ (HObj.rows 22 (rowsS n w ρ γ)).refs, 1000 ≤ q := by
 intro q hq
 simp only [HObj.refs, rowsS, List.mem_flatMap, List.mem_map] at hq
 obtain ⟨x, ⟨i, _, rfl⟩, hq⟩ := hq
 simp only [svref, List.mem_singleton] at hq
 omega
set_option maxHeartbeats 4000000 in
theorem rrows {h : Nat → HC} {x y : List Int} {m n : Nat} (hx : x.length = m + 1) (hy : y.length = n + 1) (hmn : m + n ≤ 2 ^ 19) (hfree : ∀ q, q ≤ m + n → (h (q + 1000)).o = none) :
 FrM Tryz.prog f_ref11_rows h (fpM 0 (m + n) (· + 1)) [.p (.sl (some 2) (PZ x)), .p (.sl (some 2) (PZ y))]
  (fun g svs => ∃ (G : Nat) (γ : Nat → Nat), Mat g 0 G (m + n) (m + n) (· + 1) γ (subM x y m n 0 0) ∧ svs = [.own 1000 G 0 (m + n)]) := by
 refine frM_at Tryz.func67 ok_ref11_rows (by simp) (by simp) fpM_big fun h2 hh => ?_
 have hf2 : ∀ q, q ≤ m + n → (h2 (q + 1000)).o = none := fun q hq => by
  rw [hh _ (by
   by_cases e : q = 0
   · subst e; exact fpM_top
   · obtain ⟨q', rfl⟩ : ∃ q', q = q' + 1 := ⟨q - 1, by omega⟩
     exact fpM_row (ρ := (· + 1)) (by omega))]
  exact hfree q hq
 have hxl := PZ_length x
 have hyl := PZ_length y
 rw [hx] at hxl
 rw [hy] at hyl
 have w1 := i64_nat m (by omega)
 have w2 := i64_nat n (by omega)
 unfold sc_ref11_rows
 refine Wr ?_; simp [hxl, hyl, w1, w2]
 refine Wr ?_; simp [hxl, hyl, w1, w2]
 refine Wr ?_; simp [hxl, hyl, w1, w2]
 refine WS_seq (WS_reg [7] ?_); simp [hxl, hyl, w1, w2]
 refine WS_rows 7 (T := 22) (xs := []) (by simp) ?_
 refine WS_seq ?_
 refine rows_A (h2 := h2) (w := m + n) (i0 := 0) (d := m) (c := n) (M := subM x y m n 0 0) (x := x) (vo := .sl (some 2) (PZ y)) ⟨1, by simp, by simp [rowsS], fun a ha => by omega, fun q _ => by simp⟩ rfl (by omega) (by omega) hx (fun q hq => hf2 q (by omega)) (by simp [argSlotG]) (by simp) (by simp) (by simp [argSlotG])
  (fun i j hi hj => by rw [Nat.zero_add]; exact subM_fst hi hj hx) ?_
 intro S1 HR1 k0 k5 k6 k1
 replace k0 := k0.trans (show _ = SV.p (.sl (some 2) (PZ x)) by simp [argSlotG])
 replace k1 := k1.trans (show _ = SV.p (.sl (some 2) (PZ y)) by simp [argSlotG])
 replace k5 := k5.trans (show _ = SV.p (.i .i64 (m : Int)) by simp)
 replace k6 := k6.trans (show _ = SV.p (.i .i64 (n : Int)) by simp)
 refine WS_seq ?_
 refine rows_B (h2 := h2) (w := m + n) (i0 := n) (d := n) (c := m) (M := subM x y m n 0 0) (x := y) (vo := .sl (some 2) (PZ x)) (by rw [Nat.zero_add] at HR1; exact HR1) (by omega) (by omega) (by omega) hy (fun q hq => hf2 q (by omega)) k1 k6 k5 k0
  (fun i j hi hj => subM_snd hi hj hy) ?_
 intro S2 HR2 l1 l5 l6 l0
 obtain ⟨G, s7, h7, hrows, hfr⟩ := HR2
 rw [show n + m = m + n by omega] at s7 h7 hrows hfr
 show WS Tryz.prog 79 _ _ S2
 have kn : S2.h 1000 = h2 1000 := hfr 0 (.inl rfl)
 refine WS_move 7 1000 (by rw [h7]) (by rw [kn]; exact hf2 0 (by omega)) (by decide) (by decide) rowsS_refs ?_
 have m7 : (S2.move 7 1000).σ 7 = .own 1000 ((h2 1000).g + 1) 0 (m + n) := by simp [St.move, s7, ren2, ren1, ren0, h7, kn]
 have mh : (S2.move 7 1000).h 1000 = ⟨(h2 1000).g + 1, some (.rows 22 (rowsS (m + n) (m + n) (· + 1) fun q => (h2 (q + 1000)).g + 1))⟩ := by simp [St.move, h7, kn]
 have mq : ∀ q, q ≠ 0 → (S2.move 7 1000).h (q + 1000) = S2.h (q + 1000) := fun q hq => by
  have h1 : ¬ q + 1000 = 7 := by omega
  have h2 : ¬ q + 1000 < 1000 := by omega
  have h3 : ¬ q + 1000 = 1000 := by omega
  simp [St.move, h1, h2, hq]
 obtain ⟨S3, hS3⟩ : ∃ S3, S3 = S2.move 7 1000 := ⟨_, rfl⟩
 rw [← hS3] at m7 mh ⊢
 simp only [← hS3] at mq
 refine Wr ?_; simp [m7]
 refine WS_ret ?_; simp [m7]
 refine ⟨fun q' hq => ?_, fun q => (h2 (q + 1000)).g + 1, mh, fun i hi => ?_, fun i j _ _ e => by omega, fun i _ => by omega⟩
 · have h0 : q' ≠ 0 := fun e => hq (by subst e; exact fpM_top)
   have h1 : m + n < q' := by
    refine Nat.lt_of_not_le fun hle => hq ?_
    obtain ⟨k, rfl⟩ : ∃ k, q' = k + 1 := ⟨q' - 1, by omega⟩
    exact fpM_row (ρ := (· + 1)) (by omega)
   rw [mq q' h0]; exact hfr q' (.inr h1)
 · rw [mq (i + 1) (by omega)]; exact hrows i hi
theorem subM_abs {x y : List Int} {C : Nat} (hx : ∀ i, (cf x i).natAbs ≤ C) (hy : ∀ i, (cf y i).natAbs ≤ C) (m n j t r c : Nat) : (subM x y m n j t r c).natAbs ≤ C := by
 have hs : ∀ (l : List Int), (∀ i, (cf l i).natAbs ≤ C) → ∀ i e, (shZ i l e).natAbs ≤ C := fun l hl i e => by
  unfold shZ; split
  · exact hl _
  · simp
 unfold subM
 split
 · exact hs _ hx _ _
 · split
   · exact hs _ hy _ _
   · simp
theorem rsZ_det {a b : List Int} {m n : Nat} (ha : (tr a).length = m + 1) (hb : (tr b).length = n + 1) : rsZ a b = detZ (m + n) (subM (tr a) (tr b) m n 0 0) := by
 have h := rsZ_cast (a := a) (b := b) (fun e => by rw [e] at ha; simp at ha) (fun e => by rw [e] at hb; simp at hb)
 have e : Su (tr a) (tr b) = Sub (po (tr a)) (po (tr b)) m n 0 0 := by unfold Su; rw [ha, hb]; rfl
 rw [e, sub_cast] at h
 have h' : rsZ a b = subZ (tr a) (tr b) m n 0 0 := by exact_mod_cast h
 rw [h', subZ, show n - 0 + (m - 0) = m + n by omega]
theorem det_lim {k : Nat} (hk : k ≤ 12) {z : Int} (hz : z.natAbs ≤ dB (18446744073709551616 ^ 2) k) : zlen z ≤ 37 := by
 refine zlen_lt (Nat.lt_of_le_of_lt (Nat.le_trans hz (dB_le hk)) ?_)
 have h1 : (12 * 18446744073709551616 ^ 2) ^ k ≤ (12 * 18446744073709551616 ^ 2) ^ 12 := Nat.pow_le_pow_right (by decide) hk
 have h2 : (12 * 18446744073709551616 ^ 2) ^ 12 < 18446744073709551616 ^ 37 := by decide
 omega
theorem cf_lim {k : Nat} {l : List Int} (h : PL k l) (i : Nat) : (cf l i).natAbs ≤ 18446744073709551616 ^ k := Nat.le_of_lt (Nat.lt_of_lt_of_le (lt_zlen _) (Nat.pow_le_pow_right (by decide) (h i)))
attribute [local simp] packSV
set_option maxHeartbeats 4000000 in
theorem rres {vs ws : List V} {a b : List Int} (hv : IsP 2 vs a) (hw : IsP 2 ws b) (hn : vs.length ≤ 7) (hn2 : ws.length ≤ 7) : Spec Tryz.prog f_ref11_Resultant [.sl (some 2) vs, .sl (some 2) ws] (· = [.pure (Z (rsZ a b)), .pure (.i .i64 0)]) := by
 have n1 := (rnorm10 hv (by omega) (by omega)).plain (R' := (· = [.pure (.sl (some 2) (PZ (tr a)))])) (by rintro _ rfl; rfl)
 have n2 := (rnorm10 hw (by omega) (by omega)).plain (R' := (· = [.pure (.sl (some 2) (PZ (tr b)))])) (by rintro _ rfl; rfl)
 have pnil : PZ [] = [] := rfl
 have o0 := rof 0 (by omega) (by omega)
 have la : (tr a).length ≤ 7 := Nat.le_trans (tr_len a) (by have := hv.len; omega)
 have lb : (tr b).length ≤ 7 := Nat.le_trans (tr_len b) (by have := hw.len; omega)
 have pa := pl_tr hv.pl
 have pb := pl_tr hw.pl
 have el := PZ_length (tr a)
 have el2 := PZ_length (tr b)
 have c1 : ¬ (65 : Int) < ((tr a).length : Int) := by omega
 have c2 : ¬ (65 : Int) < ((tr b).length : Int) := by omega
 refine spec_at Tryz.func17 ok_ref11_Resultant [] rfl (by simp) ?_
 unfold sc_ref11_Resultant
 by_cases ha : tr a = []
 · rw [ha] at n1
   have z : rsZ a b = 0 := rsZ_nil (.inl ha)
   rw [z]
   have l2 : ¬ 65 < (tr b).length := by omega
   refine Wr ?_; simp [el2, c2, l2, pnil]
   refine Wr ?_; simp [el2, c2, l2, pnil]
   refine callP n1 rfl ?_
   simp [el2, c2, l2, pnil]
   refine Wr ?_; simp [el2, c2, l2, pnil]
   refine callP n2 rfl ?_
   simp [el2, c2, l2, pnil]
   refine Ws ?_; simp [el2, c2, l2, pnil]
   refine WS_cF (by simp [el2, c2, l2, pnil]) ?_
   refine WS_skip ?_; simp [el2, c2, l2, pnil]
   refine Ws ?_; simp [el2, c2, l2, pnil]
   refine WS_cT (by simp [el2, c2, l2, pnil]) ?_
   refine Wr ?_; simp [el2, c2, l2, pnil]
   refine callP o0 rfl ?_
   simp [el2, c2, l2, pnil]
   refine WS_ret ?_; simp [el2, c2, l2, pnil]
 · by_cases hb : tr b = []
   · rw [hb] at n2
     have z : rsZ a b = 0 := rsZ_nil (.inr hb)
     rw [z]
     have l2 : ¬ 65 < (tr a).length := by omega
     have l1 : ¬ tr a = [] := ha
     have b1 : (((tr a).length : Int) == 0) = false := by simp; exact ha
     refine Wr ?_; simp [el, c1, l2, pnil, l1, b1]
     refine Wr ?_; simp [el, c1, l2, pnil, l1, b1]
     refine callP n1 rfl ?_
     simp [el, c1, l2, pnil, l1, b1]
     refine Wr ?_; simp [el, c1, l2, pnil, l1, b1]
     refine callP n2 rfl ?_
     simp [el, c1, l2, pnil, l1, b1]
     refine Ws ?_; simp [el, c1, l2, pnil, l1, b1]
     refine WS_cF (by simp [el, c1, l2, pnil, l1, b1]) ?_
     refine WS_skip ?_; simp [el, c1, l2, pnil, l1, b1]
     refine Ws ?_; simp [el, c1, l2, pnil, l1, b1]
     refine WS_cT (by simp [el, c1, l2, pnil, l1, b1]) ?_
     refine Wr ?_; simp [el, c1, l2, pnil, l1, b1]
     refine callP o0 rfl ?_
     simp [el, c1, l2, pnil, l1, b1]
     refine WS_ret ?_; simp [el, c1, l2, pnil, l1, b1]
   · obtain ⟨m, hm⟩ : ∃ m, (tr a).length = m + 1 := ⟨(tr a).length - 1, by have := List.length_pos_iff.2 ha; omega⟩
     obtain ⟨n, hn'⟩ : ∃ n, (tr b).length = n + 1 := ⟨(tr b).length - 1, by have := List.length_pos_iff.2 hb; omega⟩
     rw [rsZ_det hm hn']
     have hdet := fun (h : Nat → HC) (G : Nat) (γ : Nat → Nat) (H : Mat h 0 G (m + n) (m + n) (· + 1) γ (subM (tr a) (tr b) m n 0 0)) => rdet (C := 18446744073709551616 ^ 2) (K := 37) H (by omega) (subM_abs (cf_lim pa) (cf_lim pb) m n 0 0) (fun k hk z hz => det_lim (by omega) hz) (by omega)
     have hrows := fun (h : Nat → HC) (hf : ∀ q, q ≤ m + n → (h (q + 1000)).o = none) => rrows hm hn' (by omega) hf
     obtain ⟨L1, hL1⟩ : ∃ L, L = (tr a).length := ⟨_, rfl⟩
     obtain ⟨L2, hL2⟩ : ∃ L, L = (tr b).length := ⟨_, rfl⟩
     rw [← hL1] at el c1 la
     rw [← hL2] at el2 c2 lb
     have d1 : ¬ 65 < L1 := by omega
     have d2 : ¬ 65 < L2 := by omega
     have e1 : ¬ (L1 : Int) = 0 := by omega
     have e2 : ¬ (L2 : Int) = 0 := by omega
     have e3 : ¬ L1 = 0 := by omega
     have b1 : ((L1 : Int) == 0) = false := by simp; omega
     have b2 : ((L2 : Int) == 0) = false := by simp; omega
     have e4 : ¬ L2 = 0 := by omega
     obtain ⟨A, hA⟩ : ∃ A, A = PZ (tr a) := ⟨_, rfl⟩
     obtain ⟨B, hB⟩ : ∃ B, B = PZ (tr b) := ⟨_, rfl⟩
     rw [← hA, ← hB] at hrows
     rw [← hA] at n1 el
     rw [← hB] at n2 el2
     refine Wr ?_; simp [el, el2, c1, c2, d1, d2, e1, e2, e3, e4, b1, b2]
     refine Wr ?_; simp [el, el2, c1, c2, d1, d2, e1, e2, e3, e4, b1, b2]
     refine callP n1 rfl ?_
     simp [el, el2, c1, c2, d1, d2, e1, e2, e3, e4, b1, b2]
     refine Wr ?_; simp [el, el2, c1, c2, d1, d2, e1, e2, e3, e4, b1, b2]
     refine callP n2 rfl ?_
     simp [el, el2, c1, c2, d1, d2, e1, e2, e3, e4, b1, b2]
     refine Ws ?_; simp [el, el2, c1, c2, d1, d2, e1, e2, e3, e4, b1, b2]
     refine WS_cF (by simp [el, el2, c1, c2, d1, d2, e1, e2, e3, e4, b1, b2]) ?_
     refine WS_skip ?_; simp [el, el2, c1, c2, d1, d2, e1, e2, e3, e4, b1, b2]
     refine Ws ?_; simp [el, el2, c1, c2, d1, d2, e1, e2, e3, e4, b1, b2]
     refine WS_cF (by simp [el, el2, c1, c2, d1, d2, e1, e2, e3, e4, b1, b2]) ?_
     refine WS_skip ?_; simp [el, el2, c1, c2, d1, d2, e1, e2, e3, e4, b1, b2]
     refine Wr ?_; simp
     refine callX ?_
     refine mcall _ (hrows _ (fun q _ => by simp)) (by simp) ?_
     rintro H g svs hHn hHf ⟨G, γ, HMg, rfl⟩
     have HM := HMg.of_fp hHf
     have h4 := hHn 4 (fun h => absurd (fpM_big _ h) (by decide))
     simp at h4
     have htop := HM.top
     simp [htop]
     refine mcall _ (hdet _ G γ HM) (by simp [fpM]) ?_
     rintro H2 g2 svs2 hHn2 _ rfl
     have h4' := hHn2 4 (fun h => absurd (fpM_big _ h) (by decide))
     simp [h4', h4]
     refine WS_ret ?_; simp
set_option maxHeartbeats 4000000 in
theorem rres_long {k : Nat} {vs ws : List V} {a b : List Int} (hv : IsP k vs a) (hw : IsP k ws b) (hk : k ≤ 2 ^ 40) (hn : vs.length ≤ 2 ^ 40) (hn2 : ws.length ≤ 2 ^ 40) (hl : 65 < (tr a).length ∨ 65 < (tr b).length) :
 Spec Tryz.prog f_ref11_Resultant [.sl (some 2) vs, .sl (some 2) ws] (· = [.pure (Z 0), .pure (.i .i64 6)]) := by
 have n1 := own_plain (rnorm10 hv hk hn)
 have n2 := own_plain (rnorm10 hw hk hn2)
 have al := PZ_length (tr a)
 have z0 : zn 0 = false := rfl
 have z1 : uL (zl 0) = [] := by rfl
 have bl := PZ_length (tr b)
 have la : (tr a).length ≤ 2 ^ 40 := Nat.le_trans (tr_len a) (by have := hv.len; omega)
 have lb : (tr b).length ≤ 2 ^ 40 := Nat.le_trans (tr_len b) (by have := hw.len; omega)
 obtain ⟨A, hA⟩ : ∃ A, A = PZ (tr a) := ⟨_, rfl⟩
 obtain ⟨B, hB⟩ : ∃ A, A = PZ (tr b) := ⟨_, rfl⟩
 rw [← hA] at n1 al
 rw [← hB] at n2 bl
 refine spec_at Tryz.func17 ok_ref11_Resultant [] rfl (by simp) ?_
 unfold sc_ref11_Resultant
 by_cases ha : 65 < (tr a).length
 · have a1 : (65 : Int) < ((tr a).length : Int) := by omega
   refine Wr ?_; simp [al, bl, z0, z1, ha, a1]
   refine Wr ?_; simp [al, bl, z0, z1, ha, a1]
   refine callK n1 ?_; simp [al, bl, z0, z1, ha, a1]
   refine Wr ?_; simp [al, bl, z0, z1, ha, a1]
   refine callK n2 ?_; simp [al, bl, z0, z1, ha, a1]
   refine Ws ?_; simp [al, bl, z0, z1, ha, a1]
   refine WS_cT (by simp [al, bl, z0, z1, ha, a1]) ?_
   refine Wr ?_; simp [al, bl, z0, z1, ha, a1]
   refine WS_ret ?_; simp [al, bl, z0, z1, ha, a1]
 · have hb : 65 < (tr b).length := by omega
   have a1 : ¬ (65 : Int) < ((tr a).length : Int) := by omega
   have b1 : (65 : Int) < ((tr b).length : Int) := by omega
   refine Wr ?_; simp [al, bl, z0, z1, ha, a1, hb, b1]
   refine Wr ?_; simp [al, bl, z0, z1, ha, a1, hb, b1]
   refine callK n1 ?_; simp [al, bl, z0, z1, ha, a1, hb, b1]
   refine Wr ?_; simp [al, bl, z0, z1, ha, a1, hb, b1]
   refine callK n2 ?_; simp [al, bl, z0, z1, ha, a1, hb, b1]
   refine Ws ?_; simp [al, bl, z0, z1, ha, a1, hb, b1]
   refine WS_cT (by simp [al, bl, z0, z1, ha, a1, hb, b1]) ?_
   refine Wr ?_; simp [al, bl, z0, z1, ha, a1, hb, b1]
   refine WS_ret ?_; simp [al, bl, z0, z1, ha, a1, hb, b1]
set_option maxHeartbeats 4000000 in
theorem gres_long {k : Nat} {vs ws : List V} {a b : List Int} (hv : IsP k vs a) (hw : IsP k ws b) (hk : k ≤ 2 ^ 40) (hn : vs.length ≤ 2 ^ 40) (hn2 : ws.length ≤ 2 ^ 40) (hl : 65 < (tr a).length ∨ 65 < (tr b).length) :
 Spec Tryz.prog f_zgcd_Resultant [.sl (some 2) vs, .sl (some 2) ws] (· = [.pure (Z 0), .pure (.i .i64 6)]) := by
 have n1 := own_plain (pnorm hv hk hn)
 have n2 := own_plain (pnorm hw hk hn2)
 have al := PZ_length (tr a)
 have z0 : zn 0 = false := rfl
 have z1 : uL (zl 0) = [] := by rfl
 have bl := PZ_length (tr b)
 have la : (tr a).length ≤ 2 ^ 40 := Nat.le_trans (tr_len a) (by have := hv.len; omega)
 have lb : (tr b).length ≤ 2 ^ 40 := Nat.le_trans (tr_len b) (by have := hw.len; omega)
 obtain ⟨A, hA⟩ : ∃ A, A = PZ (tr a) := ⟨_, rfl⟩
 obtain ⟨B, hB⟩ : ∃ A, A = PZ (tr b) := ⟨_, rfl⟩
 rw [← hA] at n1 al
 rw [← hB] at n2 bl
 refine spec_at Tryz.func16 ok_zgcd_Resultant [] rfl (by simp) ?_
 unfold sc_zgcd_Resultant
 by_cases ha : 65 < (tr a).length
 · have a1 : (65 : Int) < ((tr a).length : Int) := by omega
   refine Wr ?_; simp [al, bl, z0, z1, ha, a1]
   refine Wr ?_; simp [al, bl, z0, z1, ha, a1]
   refine callK n1 ?_; simp [al, bl, z0, z1, ha, a1]
   refine callK n2 ?_; simp [al, bl, z0, z1, ha, a1]
   refine WS_seq (WS_block (Wr ?_)); simp [al, bl, z0, z1, ha, a1]
   refine WS_cT (by simp [al, bl, z0, z1, ha, a1]) ?_
   refine Wr ?_; simp [al, bl, z0, z1, ha, a1]
   refine WS_ret ?_; simp [al, bl, z0, z1, ha, a1]
 · have hb : 65 < (tr b).length := by omega
   have a1 : ¬ (65 : Int) < ((tr a).length : Int) := by omega
   have b1 : (65 : Int) < ((tr b).length : Int) := by omega
   refine Wr ?_; simp [al, bl, z0, z1, ha, a1, hb, b1]
   refine Wr ?_; simp [al, bl, z0, z1, ha, a1, hb, b1]
   refine callK n1 ?_; simp [al, bl, z0, z1, ha, a1, hb, b1]
   refine callK n2 ?_; simp [al, bl, z0, z1, ha, a1, hb, b1]
   refine WS_seq (WS_block (Wr ?_)); simp [al, bl, z0, z1, ha, a1, hb, b1]
   refine WS_cT (by simp [al, bl, z0, z1, ha, a1, hb, b1]) ?_
   refine Wr ?_; simp [al, bl, z0, z1, ha, a1, hb, b1]
   refine WS_ret ?_; simp [al, bl, z0, z1, ha, a1, hb, b1]
end Go.Vw
