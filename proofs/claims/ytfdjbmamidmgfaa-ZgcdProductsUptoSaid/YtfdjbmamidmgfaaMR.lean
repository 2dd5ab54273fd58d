/- Resultants, squarefree parts. -/
import Derived.Test.YtfdjbmamidmgfaaMP
import Derived.Test.YtfdjbmamidmgfaaPO
import Derived.Test.YtfdjbmamidmgfaaPP
set_option linter.unusedVariables false
set_option linter.unusedSimpArgs false
namespace Go.Vw
open Go.Proofs Go.Py Go.Dt

def sgB (neg : Bool) : Rat := if neg then -1 else 1
theorem sgB_bne (x y : Bool) : sgB (x != y) = sgB x * sgB y := by cases x <;> cases y <;> simp [sgB] <;> grind
theorem sgB_odd (a b : List Int) : sgB (oddL a && oddL b) = sg ((b.length - 1 - 0) * (a.length - 1 - 0)) := by
  rw [Nat.sub_zero, Nat.sub_zero, sg_odd]
  unfold sgB oddL
  by_cases h1 : (a.length - 1) % 2 = 1 <;> by_cases h2 : (b.length - 1) % 2 = 1 <;> simp [h1, h2]
/-- The loop's state. -/
structure RsQ (k0 L : Nat) (a0 b0 : List Int) (sw : Rat) (K : Nat) (a b : List Int) (g h : Int) (neg : Bool) : Prop where
  gb : GcB k0 L K a b
  pa : PL K a
  pb : PL K b
  zg : zlen g ≤ K
  zh : zlen h ≤ K
  tb : tr b = b
  al : 2 ≤ a.length ∨ K = k0
  main : (b = [] ∧ Su a0 b0 = 0) ∨ ∃ E, SqI a0 b0 a b (a0.length - 1) (b0.length - 1) g h E ∧ sgB neg = sw * E 0 ∧ (a.length = 1 → Su a0 b0 = 1 ∧ E 0 = 1)

theorem exP_len {r : List Int} {m : Int} (hm : m ≠ 0) (h : ∀ t, ∃ z, cf r t = m * z) (t : Nat) : cf r t = m * cf (exP r m) t := by
  have hd : ∀ x ∈ r, x % m = 0 := fun x hx => by
    obtain ⟨i, hi, rfl⟩ := List.mem_iff_getElem.1 hx
    obtain ⟨z, hz⟩ := h i
    rw [cf_lt hi] at hz
    rw [hz]; exact Int.mul_emod_right _ _
  rw [exP, if_neg hm, if_pos hd, cf_tr]
  by_cases ht : t < r.length
  · rw [cf_lt ht, cf_lt (by simpa using ht)]
    simp only [List.getElem_map]
    exact (Int.mul_ediv_cancel' (Int.dvd_of_emod_eq_zero (hd _ (List.getElem_mem ht)))).symm
  · rw [cf_ge (by omega), cf_ge (by simp; omega), Int.mul_zero]
theorem tr_exP (r : List Int) (m : Int) : tr (exP r m) = exP r m := by
  unfold exP
  split
  · rfl
  · split
    · exact tr_tr _
    · rfl
theorem exV_of {x y z : Int} (hy : y ≠ 0) (h : z * y = x) : exV x y = z := by
  rw [exV, if_neg hy, if_pos (by rw [← h]; exact Int.mul_emod_left _ _), ← h]
  exact Int.mul_ediv_cancel _ hy
theorem rsQ_step {k0 L K : Nat} {a0 b0 a b : List Int} {sw : Rat} {g h : Int} {neg : Bool} (H : RsQ k0 L a0 b0 sw K a b g h neg) (hb : 2 ≤ b.length) :
    RsQ k0 L a0 b0 sw (K + (a.length + 1 - b.length) * (K + 1)) b (exP (tr (psD a b).2) (g * h ^ (a.length - b.length))) (ldL b) (stH b h (a.length - b.length)) (neg != (oddL a && oddL b)) ∧ (exP (tr (psD a b).2) (g * h ^ (a.length - b.length))).length < b.length ∧ tr a = a ∧ b.length ≤ a.length := by
  rcases H.main with ⟨h0, _⟩ | ⟨E, I, hE, _⟩
  · rw [h0] at hb; simp at hb
  have hb0 : tr b ≠ [] := by rw [I.tb]; exact List.length_pos_iff.1 I.hb
  have hb1 : b ≠ [] := List.length_pos_iff.1 I.hb
  have lz := ldL_ne hb0
  have hab := I.hab
  obtain ⟨m1, m2, m3, m4⟩ := psD_lim H.pa I.ta H.pb I.tb hb1 rfl
  have c0 : g * h ^ (a.length - b.length) ≠ 0 := Int.mul_ne_zero I.g0 (Int.pow_ne_zero I.h0)
  have he := exP_len c0 (sq_exact I hb)
  have te := tr_exP (tr (psD a b).2) (g * h ^ (a.length - b.length))
  have hle : (exP (tr (psD a b).2) (g * h ^ (a.length - b.length))).length = (tr (psD a b).2).length := by
    have e : Eqp (tr (psD a b).2) (scL (g * h ^ (a.length - b.length)) (exP (tr (psD a b).2) (g * h ^ (a.length - b.length)))) := fun t => by rw [he t, cf_scL]
    have h1 := tr_of_eqp e
    have h2 := tr_scL c0 (exP (tr (psD a b).2) (g * h ^ (a.length - b.length)))
    rw [← h1, tr_tr, te] at h2
    exact h2.symm
  have hh : a.length = b.length ∧ stH b h (a.length - b.length) = h ∨ b.length < a.length ∧ stH b h (a.length - b.length) * h ^ (a.length - b.length - 1) = ldL b ^ (a.length - b.length) := by
    by_cases e : a.length = b.length
    · exact .inl ⟨e, by rw [stH, if_neg (by omega)]⟩
    · obtain ⟨h', hh'⟩ := sq_h I (by omega)
      refine .inr ⟨by omega, ?_⟩
      rw [stH, if_pos (by omega), exV_of (Int.pow_ne_zero I.h0) hh']
      exact hh'
  have zl0 : zlen (ldL b) ≤ K := by rw [ldL_tr I.tb]; exact H.pb _
  have zst : zlen (stH b h (a.length - b.length)) ≤ K + (a.length + 1 - b.length) * (K + 1) := by
    rcases hh with ⟨_, e⟩ | ⟨hlt, e⟩
    · rw [e]; have := H.zh; omega
    · have h1 : (stH b h (a.length - b.length)).natAbs ≤ (ldL b ^ (a.length - b.length)).natAbs := by
        rw [← e, Int.natAbs_mul]
        exact Nat.le_mul_of_pos_right _ (Int.natAbs_pos.2 (Int.pow_ne_zero I.h0))
      have h2 := zlen_le h1
      have h3 := zlen_pow (ldL b) (a.length - b.length)
      have h4 := Nat.mul_le_mul_left (a.length - b.length) zl0
      have h5 : (a.length + 1 - b.length) * (K + 1) = (a.length - b.length) * K + (a.length - b.length) + (K + 1) := by
        rw [show a.length + 1 - b.length = (a.length - b.length) + 1 by omega, Nat.add_mul, Nat.mul_add]; omega
      omega
  have pe : PL (K + (a.length + 1 - b.length) * (K + 1)) (exP (tr (psD a b).2) (g * h ^ (a.length - b.length))) := fun t => by
    refine Nat.le_trans (zlen_le ?_) (m1 t)
    rw [he t, Int.natAbs_mul]
    exact Nat.le_mul_of_pos_left _ (by omega)
  refine ⟨⟨gcB_step H.gb rfl hb1 (by omega), H.pb.mono (by omega), pe, by omega, zst, te, .inl hb, ?_⟩, by omega, I.ta, hab⟩
  by_cases hn : exP (tr (psD a b).2) (g * h ^ (a.length - b.length)) = []
  · refine .inl ⟨hn, ?_⟩
    have h0 : tr (psD a b).2 = [] := List.eq_nil_of_length_eq_zero (by rw [← hle, hn]; rfl)
    exact sq_nil I hb h0
  · refine .inr ⟨_, sq_step I hb te (List.length_pos_iff.2 hn) he hh, ?_, by omega⟩
    rw [sgB_bne, hE, sgB_odd]
    grind
/-- What comes out at the end. -/
def finV (n : Nat) (l h : Int) : Int := if 1 < n then exV (l ^ n) (h ^ (n - 1)) else l ^ n
theorem rsQ_end {k0 L K : Nat} {a0 b0 a b : List Int} {sw : Rat} {g h : Int} {neg : Bool} (H : RsQ k0 L a0 b0 sw K a b g h neg) (hb : b.length = 1) :
    sgB neg * ((finV (a.length - 1) (ldL b) h : Int) : Rat) = sw * Su a0 b0 ∧ 1 ≤ a.length := by
  rcases H.main with ⟨h0, _⟩ | ⟨E, I, hE, h1⟩
  · rw [h0] at hb; simp at hb
  have hab := I.hab
  have en : E 0 * E 0 = 1 := by rcases I.sg 0 with e | e <;> rw [e] <;> grind
  refine ⟨?_, by omega⟩
  by_cases ha : a.length = 1
  · obtain ⟨h2, h3⟩ := h1 ha
    rw [finV, ha, if_neg (by omega), hE, h2, h3, Nat.sub_self, Int.pow_zero]
    push_cast
    grind
  · have h2 := sq_end I hb (by omega)
    obtain ⟨z, hz⟩ := su_int a0 b0
    have h3 : Sub (po a0) (po b0) (a0.length - 1) (b0.length - 1) 0 0 = Su a0 b0 := rfl
    rw [h3] at h2
    have hf : ((finV (a.length - 1) (ldL b) h : Int) : Rat) = E 0 * Su a0 b0 := by
      by_cases h4 : 1 < a.length - 1
      · have hp : h ^ (a.length - 1 - 1) ≠ 0 := Int.pow_ne_zero I.h0
        rw [hz] at h2 ⊢
        obtain ⟨e, he, hee⟩ : ∃ e : Int, (e : Rat) = E 0 ∧ True := by
          rcases I.sg 0 with s | s
          · exact ⟨1, by rw [s]; rfl, trivial⟩
          · exact ⟨-1, by rw [s]; rfl, trivial⟩
        rw [finV, if_pos h4, exV_of (z := e * z) hp]
        · push_cast; rw [he]
        · refine cast_inj ?_
          rw [h2, ← he]
          push_cast
          grind
      · rw [finV, if_neg h4, h2, show a.length - 1 - 1 = 0 by omega, Rat.pow_zero]
        grind
    rw [hf, hE]
    grind
theorem gcB_lim {k0 L K : Nat} {x y : List Int} (h : GcB k0 L K x y) (j : Nat) (hj : j ≤ x.length ∨ K = k0) : K + 2 ≤ 2 * (k0 + 2) * 3 ^ (L - j) := by
  rcases hj with hj | hj
  · rcases h.2 with ⟨_, h2⟩ | ⟨h2, _⟩
    · exact Nat.le_trans h2 (Nat.mul_le_mul_left _ (Nat.pow_le_pow_right (by omega) (by omega)))
    · have : 2 * (k0 + 2) * 1 ≤ 2 * (k0 + 2) * 3 ^ (L - j) := Nat.mul_le_mul_left _ (Nat.one_le_pow _ _ (by omega))
      omega
  · have : 2 * (k0 + 2) * 1 ≤ 2 * (k0 + 2) * 3 ^ (L - j) := Nat.mul_le_mul_left _ (Nat.one_le_pow _ _ (by omega))
    omega
theorem rsQ_init {k0 L : Nat} {a0 b0 : List Int} {sw : Rat} {neg : Bool} (hk : 1 ≤ k0) (pa : PL k0 a0) (pb : PL k0 b0) (ta : tr a0 = a0) (tb : tr b0 = b0) (hb : 1 ≤ b0.length) (hab : b0.length ≤ a0.length) (hL : a0.length ≤ L) (hs : sgB neg = sw) : RsQ k0 L a0 b0 sw k0 a0 b0 1 1 neg := by
  have z1 : zlen 1 ≤ k0 := Nat.le_trans zlen_one hk
  refine ⟨⟨hL, .inr ⟨rfl, by omega⟩⟩, pa, pb, z1, z1, tb, .inr rfl, .inr ⟨fun _ => 1, ⟨ta, tb, hb, hab, by decide, by decide, fun _ => rfl, fun _ => .inl rfl, fun j t _ _ => ?_⟩, by rw [hs]; grind, fun h1 => ⟨?_, rfl⟩⟩⟩
  · have one : ∀ k : Nat, (((1 : Int) : Rat)) ^ k = 1 := fun k => by
      induction k with
      | zero => rw [Rat.pow_zero]
      | succ k ih => rw [Rat.pow_succ, ih]; grind
    simp only [one]
    grind
  · rw [su_const tb (by omega), h1, Nat.sub_self, Rat.pow_zero]
/-- The end's number and the contents, with the sign. -/
theorem rsZ_fin {a b : List Int} (ha : tr a ≠ []) (hb : tr b ≠ []) {neg : Bool} {x : Int} {sw : Rat} {a0 b0 : List Int} (h : sgB neg * (x : Rat) = sw * Su a0 b0) (hsw : Su (ppL a) (ppL b) = sw * Su a0 b0) :
    rsZ a b = (if neg then -(x * (coL a ^ ((tr b).length - 1) * coL b ^ ((tr a).length - 1))) else x * (coL a ^ ((tr b).length - 1) * coL b ^ ((tr a).length - 1))) := by
  refine cast_inj ?_
  rw [rsZ_cast ha hb, su_pp, hsw, ← h]
  unfold sgB
  cases neg <;> simp <;> grind
theorem rsQ_run {k0 L : Nat} {a0 b0 : List Int} {sw : Rat} : ∀ (n : Nat) {K : Nat} {a b : List Int} {g h : Int} {neg : Bool}, b.length ≤ n → RsQ k0 L a0 b0 sw K a b g h neg → ∃ K a b g h neg, RsQ k0 L a0 b0 sw K a b g h neg ∧ b.length ≤ 1
  | 0, K, a, b, g, h, neg, hn, Q => ⟨_, _, _, _, _, _, Q, by omega⟩
  | n + 1, K, a, b, g, h, neg, hn, Q => by
    by_cases hb : 2 ≤ b.length
    · obtain ⟨Q2, hlt, _⟩ := rsQ_step Q hb
      exact rsQ_run n (by omega) Q2
    · exact ⟨_, _, _, _, _, _, Q, by omega⟩
theorem finV_lim {l h : Int} {n K : Nat} (hl : zlen l ≤ K) (hn : n ≤ 15) (hK : K ≤ 2 ^ 15) : zlen (finV n l h) ≤ 2 ^ 20 := by
  have q1 := zlen_pow l n
  have q3 := Nat.mul_le_mul_left n hl
  have hnK : n * K ≤ 15 * 2 ^ 15 := Nat.mul_le_mul hn hK
  unfold finV
  split
  · refine Nat.le_trans (zlen_le (y := l ^ n) ?_) (by omega)
    unfold exV
    split
    · simp
    · split
      · rename_i hd
        rw [Int.natAbs_ediv_of_dvd (Int.dvd_of_emod_eq_zero hd)]
        exact Nat.div_le_self _ _
      · simp
  · omega
/-- How long a resultant is. -/
theorem rsZ_lim {k0 L : Nat} {a b : List Int} (pa : PL k0 a) (pb : PL k0 b) (la : a.length ≤ L) (lb : b.length ≤ L) (hk : 1 ≤ k0) (hL : 3 ≤ L) (hL2 : L ≤ 16) (hC : 2 * (k0 + 2) * 3 ^ (L - 3) ≤ 2 ^ 13) : zlen (rsZ a b) ≤ 2 ^ 21 := by
  by_cases ha0 : tr a = []
  · rw [rsZ_nil (.inl ha0)]; decide
  by_cases hb0 : tr b = []
  · rw [rsZ_nil (.inr hb0)]; decide
  have hC2 : 2 * (k0 + 2) * 3 ^ (L - 2) ≤ 3 * 2 ^ 13 := by
    rw [show L - 2 = (L - 3) + 1 by omega, Nat.pow_succ, ← Nat.mul_assoc]
    omega
  have hk0 : 2 * (k0 + 2) ≤ 2 ^ 13 := by
    have : 2 * (k0 + 2) * 1 ≤ 2 * (k0 + 2) * 3 ^ (L - 3) := Nat.mul_le_mul_left _ (Nat.one_le_pow _ _ (by omega))
    omega
  have tla := tr_len a
  have tlb := tr_len b
  have lta := List.length_pos_iff.2 ha0
  have ltb := List.length_pos_iff.2 hb0
  have lpa := ppL_len' a
  have lpb := ppL_len' b
  obtain ⟨c, hc⟩ : ∃ c, c = coL a ^ ((tr b).length - 1) * coL b ^ ((tr a).length - 1) := ⟨_, rfl⟩
  have zc : zlen c ≤ 2 ^ 19 := by
    have z1 := coL_len pa
    have z2 := coL_len pb
    have hnk : ((tr b).length - 1) * k0 ≤ 15 * 2 ^ 12 := Nat.mul_le_mul (by omega) (by omega)
    have hmk : ((tr a).length - 1) * k0 ≤ 15 * 2 ^ 12 := Nat.mul_le_mul (by omega) (by omega)
    have q1 := zlen_pow (coL a) ((tr b).length - 1)
    have q2 := zlen_pow (coL b) ((tr a).length - 1)
    have q3 := Nat.mul_le_mul_left ((tr b).length - 1) z1
    have q4 := Nat.mul_le_mul_left ((tr a).length - 1) z2
    have q5 := zlen_mul (coL a ^ ((tr b).length - 1)) (coL b ^ ((tr a).length - 1))
    rw [hc]; omega
  have main : ∀ (a0 b0 : List Int) (sw : Rat) (neg0 : Bool), RsQ k0 L a0 b0 sw k0 a0 b0 1 1 neg0 → Su (ppL a) (ppL b) = sw * Su a0 b0 → zlen (rsZ a b) ≤ 2 ^ 21 := by
    intro a0 b0 sw neg0 Q0 hsw
    obtain ⟨K, x, y, g, h, neg, Q, hy⟩ := rsQ_run _ (Nat.le_refl _) Q0
    by_cases h0 : y = []
    · rcases Q.main with ⟨_, hz⟩ | ⟨E, I, _⟩
      · rw [rsZ_pp ha0 hb0, hsw, hz, Rat.mul_zero]
        simp
        decide
      · have := I.hb
        rw [h0] at this
        simp at this
    · have hy1 : y.length = 1 := by have := List.length_pos_iff.2 h0; omega
      obtain ⟨e1, e2⟩ := rsQ_end Q hy1
      have hK := gcB_lim Q.gb 2 Q.al
      have hx := Q.gb.1
      have zf := finV_lim (l := ldL y) (h := h) (n := x.length - 1) (K := K) (by rw [ldL_tr Q.tb]; exact Q.pb _) (by omega) (by omega)
      have hv := rsZ_fin ha0 hb0 e1 hsw
      rw [← hc] at hv
      have hm := zlen_mul (finV (x.length - 1) (ldL y) h) c
      rw [hv]
      split
      · rw [zlen_neg]; omega
      · omega
  rcases Nat.lt_or_ge (tr a).length (tr b).length with h | h
  · refine main (ppL b) (ppL a) (sg (((ppL b).length - 1) * ((ppL a).length - 1))) (oddL (ppL b) && oddL (ppL a)) (rsQ_init hk (pl_pp pb) (pl_pp pa) (tr_ppL b) (tr_ppL a) (by omega) (by omega) (by omega) ?_) (su_swap (ppL b) (ppL a))
    rw [sgB_odd, Nat.sub_zero, Nat.sub_zero, Nat.mul_comm]
  · exact main (ppL a) (ppL b) 1 false (rsQ_init hk (pl_pp pa) (pl_pp pb) (tr_ppL a) (tr_ppL b) (by omega) (by omega) (by omega) rfl) (by rw [Rat.one_mul])
end Go.Vw
set_option linter.unusedVariables false
set_option linter.unusedSimpArgs false
namespace Go.Vw
open Go.Proofs Go.Py Go.Dt

def RsS (k0 L : Nat) (a0 b0 : List Int) (sw : Rat) (c : Int) (S : St) : Prop := ∃ K a b g h neg, RsQ k0 L a0 b0 sw K a b g h neg ∧ S.σ 7 = .ptr 53 1 0 ∧ S.σ 8 = .bnd f_zgcd_sequence_step 53 1 ∧ S.σ 6 = .ptr 6 1 0 ∧ S.h 6 = ⟨1, some (.box 27 [.b (zn c), .sl none (uL (zl c))])⟩ ∧
  S.σ 4 = .ptr 4 1 0 ∧ S.h 4 = ⟨1, some (.box 27 [.b false, .sl none []])⟩ ∧ S.h 53 = ⟨1, some (.box 60 (sqc a b g h neg))⟩ ∧ S.h 9 = ⟨0, none⟩
def rsM (S : St) : Nat := match (S.h 53).o with | some (.box _ (_ :: .sl _ xs :: _)) => xs.length | _ => 0
theorem rsM_eq {S : St} {a b : List Int} {g h : Int} {neg : Bool} {G : Nat} {T : TypeId} (e : S.h 53 = ⟨G, some (.box T (sqc a b g h neg))⟩) : rsM S = b.length := by
  simp only [rsM, e, sqc, PZ_length]
/-- What the rest of the code answers. -/
def resV (b : List Int) (n : Nat) (h c : Int) (neg : Bool) : Int := if b = [] then 0 else if neg then -(finV n (ldL b) h * c) else finV n (ldL b) h * c

attribute [local simp] RunL_cons RunL_nil AOp_none AOp_some acK_v acK_call agK_tt agK_ff agK_tf agK_ft agK_tup agK_i aop aun St.ev St.heap St.put thenQ blockQ scopeQ upd_apply S0 argSlot lowV V.cells V.isAgg V.fits V.part partOk plains St.ret retSV svOf svsOf retQ retP retAll retOne uL_length uL_get? uL_get St.elems retH ownIdx ownAt
attribute [local simp] RunD_none RunD_some RunD_nil RunE_any acD_v acD_call agD_tt agD_ff agD_tf agD_ft agD_tup entsOf svref SO.opds SO.writes SO.makes callEnt pureSV pureOf RV.isOwn
attribute [local simp] abin_add abin_sub abin_mul abin_quo abin_rem abin_eql abin_neq abin_lss abin_leq abin_gtr abin_geq
attribute [local simp] uL_snoc uL_set uL_take uL_drop uL_append uL_replicate uL_nil
attribute [local simp] acK_callG acD_callG St.giv gsSV gvSV retEnts ownEnts SO.still
attribute [local simp] S0G argSlotG givSV retQG retPG retAllG retOneG HObj.width V.scalar trimQ V.byte
attribute [local simp] zv V.fits fillOk fillV Z_eq
theorem res_tail {a b : List Int} {g h c : Int} {neg : Bool} {K n : Nat} (pb : PL K b) (zh : zlen h ≤ K) (zc : zlen c ≤ 2 ^ 19) (hb1 : b.length ≤ 1) (tb : tr b = b) (ha : b = [] ∨ a.length = n + 1) (hK : K ≤ 2 ^ 15) (hn : n ≤ 15) (S : St)
    (s7 : S.σ 7 = .ptr 53 1 0) (s6 : S.σ 6 = .ptr 6 1 0) (h6 : S.h 6 = ⟨1, some (.box 27 [.b (zn c), .sl none (uL (zl c))])⟩) (s4 : S.σ 4 = .ptr 4 1 0) (h4 : S.h 4 = ⟨1, some (.box 27 [.b false, .sl none []])⟩)
    (h53 : S.h 53 = ⟨1, some (.box 60 (sqc a b g h neg))⟩) (h9 : S.h 9 = ⟨0, none⟩) :
    WS Try.prog 144 sc_zgcd_Resultant.snd.snd.snd.snd.snd.snd.snd (retQ [(.cell 4 (some 2)), (.tmp 5)] [] (· = [.pure (Z (resV b n h c neg)), .pure (.i .i64 0)])) S := by
  unfold sc_zgcd_Resultant
  simp only [SC.snd]
  have bl := PZ_length b
  have al := PZ_length a
  rw [sqc] at h53
  have o0 := zof 0 (by omega) (by omega)
  by_cases hb0 : b = []
  · subst hb0
    rw [resV, if_pos rfl]
    rw [show PZ [] = [] from rfl] at h53
    refine WS_seq (WS_seq (WS_reg [] ?_)); simp [s7, s6, h6, s4, h4, h53]
    refine WS_cond (t := true) (by simp [s7, s6, h6, s4, h4, h53]) (fun _ => ?_) (fun h => by cases h)
    refine WS_seq (WS_reg [] ?_); simp [s7, s6, h6, s4, h4, h53]
    refine callK o0 ?_; simp [s7, s6, h6, s4, h4, h53]
    refine WS_ret ?_; simp [s7, s6, h6, s4, h4, h53]
  · have bp := List.length_pos_iff.2 hb0
    have b1 : b.length = 1 := by omega
    have ha' : a.length = n + 1 := by rcases ha with h | h; exact absurd h hb0; exact h
    rw [resV, if_neg hb0]
    have hg0 := PZ_get b 0 (by rw [PZ_length]; omega)
    rw [show cf b 0 = ldL b by rw [ldL_tr tb, b1]] at hg0
    have zl0 : zlen (ldL b) ≤ K := by rw [ldL_tr tb]; exact pb _
    obtain ⟨l, hl⟩ : ∃ l, l = ldL b := ⟨_, rfl⟩
    rw [← hl] at hg0 zl0 ⊢
    have dA := gdeg (sz := some 2) (PZ a) (by omega)
    rw [al, ha', show ((n + 1 : Nat) : Int) - 1 = (n : Int) by omega] at dA
    rw [b1] at bl
    have hnK : n * K ≤ 15 * 2 ^ 15 := Nat.mul_le_mul hn hK
    have hnK2 : (n - 1) * K ≤ 15 * 2 ^ 15 := Nat.mul_le_mul (by omega) hK
    have pw1 := gpow (isZ_of zl0) n (by omega) (by omega) (by omega)
    have pw2 := gpow (isZ_of zh) (n - 1) (by omega) (by omega) (by omega)
    have q1 := zlen_pow l n
    have q2 := zlen_pow h (n - 1)
    have q3 := Nat.mul_le_mul_left n zl0
    have q4 := Nat.mul_le_mul_left (n - 1) zh
    have ex := zexact (isZ_of (x := l ^ n) (k := 2 ^ 20) (by omega)) (isZ_of (x := h ^ (n - 1)) (k := 2 ^ 20) (by omega)) (by omega)
    obtain ⟨e2, he2⟩ := exactR_exV (l ^ n) (h ^ (n - 1))
    rw [he2] at ex
    have zf : zlen (finV n l h) ≤ 2 ^ 20 := by
      unfold finV
      split
      · refine Nat.le_trans (zlen_le (y := l ^ n) ?_) (by omega)
        unfold exV
        split
        · simp
        · split
          · rename_i hd
            rw [Int.natAbs_ediv_of_dvd (Int.dvd_of_emod_eq_zero hd)]
            exact Nat.div_le_self _ _
          · simp
      · omega
    have mu := zmul (isZ_of zf) (isZ_of (x := c) (k := 2 ^ 20) (by omega)) (by omega)
    have ml := zlen_mul (finV n l h) c
    have ng := zneg (isZ_of (x := finV n l h * c) (k := 2 ^ 21) (by omega)) (by omega)
    have n1 : IntKind.i64.wrap ((n : Int) - 1) = ((n - 1 : Nat) : Int) ∨ n = 0 := by
      by_cases h : n = 0
      · exact .inr h
      · exact .inl (by rw [show (n : Int) - 1 = ((n - 1 : Nat) : Int) by omega]; exact i64_nat _ (by omega))
    clear q1 q2 q3 q4 hnK hnK2 zf ml he2 hl zl0 zh pb
    obtain ⟨WA, wA⟩ : ∃ W, W = PZ a := ⟨_, rfl⟩
    rw [← wA] at dA al h53
    obtain ⟨WB, wB⟩ : ∃ W, W = PZ b := ⟨_, rfl⟩
    rw [← wB] at bl h53
    simp only [← wB] at hg0
    have key : ∀ S : St, S.σ 7 = .ptr 53 1 0 → S.σ 6 = .ptr 6 1 0 → S.h 6 = ⟨1, some (.box 27 [.b (zn c), .sl none (uL (zl c))])⟩ → S.σ 4 = .ptr 4 1 0 → S.h 4 = ⟨1, some (.box 27 [.b false, .sl none []])⟩ →
        S.h 53 = ⟨1, some (.box 60 [.sl (some 2) WA, .sl (some 2) WB, .b (zn g), .sl none (uL (zl g)), .b (zn h), .sl none (uL (zl h)), .b neg])⟩ → S.σ 9 = .ptr 9 1 0 → S.h 9 = ⟨1, some (.box 27 [.b (zn (finV n l h)), .sl none (uL (zl (finV n l h)))])⟩ →
        WS Try.prog 144 sc_zgcd_Resultant.snd.snd.snd.snd.snd.snd.snd.snd.snd.snd (retQ [(.cell 4 (some 2)), (.tmp 5)] [] (· = [.pure (Z (if neg then -(finV n l h * c) else finV n l h * c)), .pure (.i .i64 0)])) S := by
      intro S s7 s6 h6 s4 h4 h53 s9 h9
      unfold sc_zgcd_Resultant
      simp only [SC.snd]
      obtain ⟨F, hF⟩ : ∃ F, F = finV n l h := ⟨_, rfl⟩
      rw [← hF] at mu ng h9 ⊢
      cases neg
      · refine WS_seq (WS_reg [] ?_); simp [s7, s6, h6, s4, h4, h53, s9, h9]
        refine callK mu ?_; simp [s7, s6, h6, s4, h4, h53, s9, h9]
        refine WS_seq (WS_seq (WS_reg [] ?_)); simp [s7, s6, h6, s4, h4, h53, s9, h9]
        refine WS_cond (t := false) (by simp [s7, s6, h6, s4, h4, h53, s9, h9]) (fun h => by cases h) (fun _ => ?_)
        refine WS_skip ?_; simp [s7, s6, h6, s4, h4, h53, s9, h9]
        refine WS_seq (WS_reg [] ?_); simp [s7, s6, h6, s4, h4, h53, s9, h9]
        refine WS_ret ?_; simp [s7, s6, h6, s4, h4, h53, s9, h9]
      · refine WS_seq (WS_reg [] ?_); simp [s7, s6, h6, s4, h4, h53, s9, h9]
        refine callK mu ?_; simp [s7, s6, h6, s4, h4, h53, s9, h9]
        refine WS_seq (WS_seq (WS_reg [] ?_)); simp [s7, s6, h6, s4, h4, h53, s9, h9]
        refine WS_cond (t := true) (by simp [s7, s6, h6, s4, h4, h53, s9, h9]) (fun _ => ?_) (fun h => by cases h)
        refine WS_reg [] ?_; simp [s7, s6, h6, s4, h4, h53, s9, h9]
        refine callK ng ?_; simp [s7, s6, h6, s4, h4, h53, s9, h9]
        refine WS_seq (WS_reg [] ?_); simp [s7, s6, h6, s4, h4, h53, s9, h9]
        refine WS_ret ?_; simp [s7, s6, h6, s4, h4, h53, s9, h9]
    unfold sc_zgcd_Resultant at key
    simp only [SC.snd] at key
    by_cases hn1 : 1 < n
    · have hnI : (1 : Int) < (n : Int) := by omega
      have n2 : IntKind.i64.wrap ((n : Int) - 1) = ((n - 1 : Nat) : Int) := by rcases n1 with h | h; exact h; omega
      have ef : finV n l h = exV (l ^ n) (h ^ (n - 1)) := by rw [finV, if_pos hn1]
      rw [ef] at key ⊢
      clear mu ng ef
      obtain ⟨u, hu⟩ : ∃ u, u = exV (l ^ n) (h ^ (n - 1)) := ⟨_, rfl⟩
      rw [← hu] at ex key ⊢
      obtain ⟨p2, hp2⟩ : ∃ u, u = l ^ n := ⟨_, rfl⟩
      rw [← hp2] at ex pw1
      obtain ⟨p3, hp3⟩ : ∃ u, u = h ^ (n - 1) := ⟨_, rfl⟩
      rw [← hp3] at ex pw2
      refine WS_seq (WS_seq (WS_reg [] ?_)); simp [s7, s6, h6, s4, h4, h53, h9, bl, hg0, hn1, hnI, n2]
      refine WS_cond (t := false) (by simp [s7, s6, h6, s4, h4, h53, h9, bl, hg0, hn1, hnI, n2]) (fun h => by cases h) (fun _ => ?_)
      refine WS_skip ?_; simp [s7, s6, h6, s4, h4, h53, h9, bl, hg0, hn1, hnI, n2]
      refine WS_seq (WS_regD [] ?_); simp [s7, s6, h6, s4, h4, h53, h9, bl, hg0, hn1, hnI, n2]
      refine callD dA rfl ?_; simp [s7, s6, h6, s4, h4, h53, h9, bl, hg0, hn1, hnI, n2]
      refine callD pw1 rfl ?_; simp [s7, s6, h6, s4, h4, h53, h9, bl, hg0, hn1, hnI, n2]
      refine ⟨rfl, ?_⟩
      refine WS_seq (WS_seq (WS_reg [] ?_)); simp [s7, s6, h6, s4, h4, h53, h9, bl, hg0, hn1, hnI, n2]
      refine callK dA ?_; simp [s7, s6, h6, s4, h4, h53, h9, bl, hg0, hn1, hnI, n2]
      refine WS_seq (WS_reg [] ?_); simp [s7, s6, h6, s4, h4, h53, h9, bl, hg0, hn1, hnI, n2]
      refine WS_cond (t := true) (by simp [s7, s6, h6, s4, h4, h53, h9, bl, hg0, hn1, hnI, n2]) (fun _ => ?_) (fun h => by cases h)
      refine WS_regD [] ?_; simp [s7, s6, h6, s4, h4, h53, h9, bl, hg0, hn1, hnI, n2]
      refine callD pw2 rfl ?_; simp [s7, s6, h6, s4, h4, h53, h9, bl, hg0, hn1, hnI, n2]
      refine callD ex rfl ?_; simp [s7, s6, h6, s4, h4, h53, h9, bl, hg0, hn1, hnI, n2]
      refine ⟨rfl, ?_⟩
      refine key _ ?_ ?_ ?_ ?_ ?_ ?_ ?_ ?_ <;> simp [s7, s6, h6, s4, h4, h53, h9]
    · have hnI : ¬ (1 : Int) < (n : Int) := by omega
      have ef : finV n l h = l ^ n := by rw [finV, if_neg hn1]
      rw [ef] at key ⊢
      clear mu ng ef ex
      obtain ⟨p2, hp2⟩ : ∃ u, u = l ^ n := ⟨_, rfl⟩
      rw [← hp2] at pw1 key ⊢
      refine WS_seq (WS_seq (WS_reg [] ?_)); simp [s7, s6, h6, s4, h4, h53, h9, bl, hg0, hn1, hnI]
      refine WS_cond (t := false) (by simp [s7, s6, h6, s4, h4, h53, h9, bl, hg0, hn1, hnI]) (fun h => by cases h) (fun _ => ?_)
      refine WS_skip ?_; simp [s7, s6, h6, s4, h4, h53, h9, bl, hg0, hn1, hnI]
      refine WS_seq (WS_regD [] ?_); simp [s7, s6, h6, s4, h4, h53, h9, bl, hg0, hn1, hnI]
      refine callD dA rfl ?_; simp [s7, s6, h6, s4, h4, h53, h9, bl, hg0, hn1, hnI]
      refine callD pw1 rfl ?_; simp [s7, s6, h6, s4, h4, h53, h9, bl, hg0, hn1, hnI]
      refine ⟨rfl, ?_⟩
      refine WS_seq (WS_seq (WS_reg [] ?_)); simp [s7, s6, h6, s4, h4, h53, h9, bl, hg0, hn1, hnI]
      refine callK dA ?_; simp [s7, s6, h6, s4, h4, h53, h9, bl, hg0, hn1, hnI]
      refine WS_seq (WS_reg [] ?_); simp [s7, s6, h6, s4, h4, h53, h9, bl, hg0, hn1, hnI]
      refine WS_cond (t := false) (by simp [s7, s6, h6, s4, h4, h53, h9, bl, hg0, hn1, hnI]) (fun h => by cases h) (fun _ => ?_)
      refine WS_skip ?_; simp [s7, s6, h6, s4, h4, h53, h9, bl, hg0, hn1, hnI]
      refine key _ ?_ ?_ ?_ ?_ ?_ ?_ ?_ ?_ <;> simp [s7, s6, h6, s4, h4, h53, h9]
set_option maxHeartbeats 4000000 in
theorem gres {k0 L : Nat} {vs ws : List V} {a b : List Int} (hv : IsP k0 vs a) (hw : IsP k0 ws b) (hn : vs.length ≤ L) (hn2 : ws.length ≤ L) (hk : 1 ≤ k0) (hL : 3 ≤ L) (hL2 : L ≤ 16) (hC : 2 * (k0 + 2) * 3 ^ (L - 3) ≤ 2 ^ 13) :
    Spec Try.prog f_zgcd_Resultant [.sl (some 2) vs, .sl (some 2) ws] (· = [.pure (Z (rsZ a b)), .pure (.i .i64 0)]) := by
  have hC2 : 2 * (k0 + 2) * 3 ^ (L - 2) ≤ 3 * 2 ^ 13 := by
    rw [show L - 2 = (L - 3) + 1 by omega, Nat.pow_succ, ← Nat.mul_assoc]
    omega
  have hk0 : 2 * (k0 + 2) ≤ 2 ^ 13 := by
    have : 2 * (k0 + 2) * 1 ≤ 2 * (k0 + 2) * 3 ^ (L - 3) := Nat.mul_le_mul_left _ (Nat.one_le_pow _ _ (by omega))
    omega
  have n1 := own_plain (pnorm hv (by omega) (by omega))
  have n2 := own_plain (pnorm hw (by omega) (by omega))
  have tla := tr_len a
  have tlb := tr_len b
  have lva := hv.len
  have lvb := hw.len
  have al := PZ_length (tr a)
  have bl := PZ_length (tr b)
  have o0 := zof 0 (by omega) (by omega)
  have o1 := zof 1 (by omega) (by omega)
  have a65 : ¬ (65 : Int) < ((tr a).length : Int) := by omega
  have b65 : ¬ (65 : Int) < ((tr b).length : Int) := by omega
  by_cases ha0 : tr a = []
  · rw [rsZ_nil (.inl ha0)]
    rw [ha0] at n1 al a65
    obtain ⟨A, hA⟩ : ∃ A, A = PZ [] := ⟨_, rfl⟩
    rw [← hA] at n1 al
    obtain ⟨B, hB⟩ : ∃ A, A = PZ (tr b) := ⟨_, rfl⟩
    rw [← hB] at n2 bl
    refine spec_at Try.func9 ok_zgcd_Resultant [] rfl (by simp) ?_
    unfold sc_zgcd_Resultant
    refine WS_seq (WS_reg [] ?_); simp [al, bl, a65, b65]
    refine WS_seq (WS_reg [] ?_); simp [al, bl, a65, b65]
    refine callK n1 ?_; simp [al, bl, a65, b65]
    refine callK n2 ?_; simp [al, bl, a65, b65]
    refine WS_seq (WS_block (WS_seq (WS_reg [] ?_))); simp [al, bl, a65, b65]
    refine WS_cond (t := false) (by simp [al, bl, a65, b65]) (fun h => by cases h) (fun _ => ?_)
    refine WS_seq (WS_reg [] ?_); simp [al, bl, a65, b65]
    refine WS_cond (t := true) (by simp [al, bl, a65, b65]) (fun _ => ?_) (fun h => by cases h)
    refine WS_seq (WS_reg [] ?_); simp [al, bl, a65, b65]
    refine callK o0 ?_; simp [al, bl, a65, b65]
    refine WS_ret ?_; simp [al, bl, a65, b65]
  · by_cases hb0 : tr b = []
    · rw [rsZ_nil (.inr hb0)]
      rw [hb0] at n2 bl b65
      have la := List.length_pos_iff.2 ha0
      have laI : (((tr a).length : Int) == 0) = false := by simp; omega
      obtain ⟨B, hB⟩ : ∃ A, A = PZ [] := ⟨_, rfl⟩
      rw [← hB] at n2 bl
      obtain ⟨A, hA⟩ : ∃ A, A = PZ (tr a) := ⟨_, rfl⟩
      rw [← hA] at n1 al
      refine spec_at Try.func9 ok_zgcd_Resultant [] rfl (by simp) ?_
      unfold sc_zgcd_Resultant
      refine WS_seq (WS_reg [] ?_); simp [al, bl, a65, b65, laI]
      refine WS_seq (WS_reg [] ?_); simp [al, bl, a65, b65, laI]
      refine callK n1 ?_; simp [al, bl, a65, b65, laI]
      refine callK n2 ?_; simp [al, bl, a65, b65, laI]
      refine WS_seq (WS_block (WS_seq (WS_reg [] ?_))); simp [al, bl, a65, b65, laI]
      refine WS_cond (t := false) (by simp [al, bl, a65, b65, laI]) (fun h => by cases h) (fun _ => ?_)
      refine WS_seq (WS_reg [] ?_); simp [al, bl, a65, b65, laI]
      refine WS_cond (t := true) (by simp [al, bl, a65, b65, laI]) (fun _ => ?_) (fun h => by cases h)
      refine WS_seq (WS_reg [] ?_); simp [al, bl, a65, b65, laI]
      refine callK o0 ?_; simp [al, bl, a65, b65, laI]
      refine WS_ret ?_; simp [al, bl, a65, b65, laI]
    · have la := List.length_pos_iff.2 ha0
      have lb := List.length_pos_iff.2 hb0
      have laI : (((tr a).length : Int) == 0) = false := by simp; omega
      have lbI : (((tr b).length : Int) == 0) = false := by simp; omega
      have la0 : ¬ (tr a).length = 0 := by omega
      have lb0 : ¬ (tr b).length = 0 := by omega
      have pa := pl_tr hv.pl
      have pb := pl_tr hw.pl
      have c1 := pcontent (isP_PZ pa) (by omega) (by omega)
      have c2 := pcontent (isP_PZ pb) (by omega) (by omega)
      rw [coL_eqp (cf_tr a)] at c1
      rw [coL_eqp (cf_tr b)] at c2
      have z1 := coL_len hv.pl
      have z2 := coL_len hw.pl
      have dA := gdeg (sz := some 2) (PZ (tr a)) (by omega)
      have dB := gdeg (sz := some 2) (PZ (tr b)) (by omega)
      have p1 := own_plain (pprim (isP_PZ pa) (by omega) (by omega))
      have p2 := own_plain (pprim (isP_PZ pb) (by omega) (by omega))
      rw [ppL_eqp' (cf_tr a)] at p1
      rw [ppL_eqp' (cf_tr b)] at p2
      obtain ⟨m, hm⟩ : ∃ m, (tr a).length = m + 1 := ⟨(tr a).length - 1, by omega⟩
      obtain ⟨n, hn'⟩ : ∃ m, (tr b).length = m + 1 := ⟨(tr b).length - 1, by omega⟩
      rw [al, hm, show ((m + 1 : Nat) : Int) - 1 = (m : Int) by omega] at dA
      rw [bl, hn', show ((n + 1 : Nat) : Int) - 1 = (n : Int) by omega] at dB
      have hnk : n * k0 ≤ 15 * 2 ^ 12 := Nat.mul_le_mul (by omega) (by omega)
      have hmk : m * k0 ≤ 15 * 2 ^ 12 := Nat.mul_le_mul (by omega) (by omega)
      have w1 := gpow (isZ_of z1) n (by omega) (by omega) (by omega)
      have w2 := gpow (isZ_of z2) m (by omega) (by omega) (by omega)
      have q1 := zlen_pow (coL a) n
      have q2 := zlen_pow (coL b) m
      have q3 := Nat.mul_le_mul_left n z1
      have q4 := Nat.mul_le_mul_left m z2
      have mu := zmul (isZ_of (x := coL a ^ n) (k := 2 ^ 17) (by omega)) (isZ_of (x := coL b ^ m) (k := 2 ^ 17) (by omega)) (by omega)
      have ml := zlen_mul (coL a ^ n) (coL b ^ m)
      have qa := pl_pp hv.pl
      have qb := pl_pp hw.pl
      have ta := tr_ppL a
      have tb := tr_ppL b
      have lpa := ppL_len' a
      have lpb := ppL_len' b
      have fin : ∀ (neg : Bool) (x : Int) (sw : Rat) (a0 b0 : List Int), sgB neg * (x : Rat) = sw * Su a0 b0 → Su (ppL a) (ppL b) = sw * Su a0 b0 → rsZ a b = (if neg then -(x * (coL a ^ n * coL b ^ m)) else x * (coL a ^ n * coL b ^ m)) := fun neg x sw a0 b0 h1 h2 => by
        have := rsZ_fin ha0 hb0 h1 h2
        rw [hm, hn', Nat.add_sub_cancel, Nat.add_sub_cancel] at this
        exact this
      have su0 := rsZ_pp ha0 hb0
      rw [hm, hn', Nat.add_sub_cancel, Nat.add_sub_cancel] at su0
      have ssw := su_swap (ppL b) (ppL a)
      obtain ⟨c, hc⟩ : ∃ c, c = coL a ^ n * coL b ^ m := ⟨_, rfl⟩
      have zc : zlen c ≤ 2 ^ 19 := by rw [hc]; omega
      rw [← hc] at mu su0
      simp only [← hc] at fin
      clear hc ml q1 q2 q3 q4
      obtain ⟨u1, hu1⟩ : ∃ c, c = coL a ^ n := ⟨_, rfl⟩
      rw [← hu1] at w1 mu
      obtain ⟨u2, hu2⟩ : ∃ c, c = coL b ^ m := ⟨_, rfl⟩
      rw [← hu2] at w2 mu
      obtain ⟨ca, hca⟩ : ∃ c, c = coL a := ⟨_, rfl⟩
      rw [← hca] at c1 w1
      obtain ⟨cb, hcb⟩ : ∃ c, c = coL b := ⟨_, rfl⟩
      rw [← hcb] at c2 w2
      obtain ⟨x, hx⟩ : ∃ x, x = ppL a := ⟨_, rfl⟩
      obtain ⟨y, hy⟩ : ∃ x, x = ppL b := ⟨_, rfl⟩
      rw [← hx] at p1 qa ta lpa
      rw [← hy] at p2 qb tb lpb
      rw [← hx, ← hy] at ssw su0
      simp only [← hx, ← hy] at fin
      -- the loop and what follows, from the state behind the exchange
      have rest : ∀ (a0 b0 : List Int) (sw : Rat) (neg : Bool), RsQ k0 L a0 b0 sw k0 a0 b0 1 1 neg → Su x y = sw * Su a0 b0 → ∀ S : St, S.σ 7 = .ptr 53 1 0 → S.σ 6 = .ptr 6 1 0 → S.h 6 = ⟨1, some (.box 27 [.b (zn c), .sl none (uL (zl c))])⟩ →
          S.σ 4 = .ptr 4 1 0 → S.h 4 = ⟨1, some (.box 27 [.b false, .sl none []])⟩ → S.h 53 = ⟨1, some (.box 60 (sqc a0 b0 1 1 neg))⟩ → S.h 9 = ⟨0, none⟩ →
          WS Try.prog 144 sc_zgcd_Resultant.snd.snd.snd.snd.snd.snd (retQ [(.cell 4 (some 2)), (.tmp 5)] [] (· = [.pure (Z (rsZ a b)), .pure (.i .i64 0)])) S := by
        intro a0 b0 sw neg0 Q0 hsw S s7 s6 h6 s4 h4 h53 h9
        have tail := @res_tail
        unfold sc_zgcd_Resultant at tail ⊢
        simp only [SC.snd] at tail ⊢
        clear p1 p2 mu w1 w2 c1 c2 n1 n2 dA dB
        refine WS_seq (WS_seq (WS_reg [] ?_)); simp [s7, s6, h6, s4, h4, h53, h9]
        refine WS_block ?_
        refine WS_loop (RsS k0 L a0 b0 sw c) rsM ⟨k0, a0, b0, 1, 1, neg0, Q0, by simp [s7], by simp, by simp [s6], by simp [h6], by simp [s4], by simp [h4], by simp [h53], by simp [h9]⟩ ?_
        clear s7 s6 h6 s4 h4 h53 h9
        rintro S ⟨K, a1, b1, g, h, neg, Q, s7, s8, s6, h6, s4, h4, h53, h9⟩
        have dm := rsM_eq h53
        have h53' := h53
        rw [sqc] at h53
        have b1l := PZ_length b1
        have lL : b1.length ≤ L := by have h1 := Q.gb.1; rcases Q.gb.2 with ⟨h2, _⟩ | ⟨_, h2⟩ <;> omega
        have dB := gdeg (sz := some 2) (PZ b1) (by omega)
        rw [b1l] at dB
        obtain ⟨W, hW⟩ : ∃ W, W = PZ b1 := ⟨_, rfl⟩
        rw [← hW] at dB h53 b1l
        by_cases h2 : 2 ≤ b1.length
        · have hI : (1 : Int) < (b1.length : Int) := by omega
          obtain ⟨Q2, hlt, ta1, hab⟩ := rsQ_step Q h2
          have hK : K ≤ 2 ^ 13 := by
            have h3 : 3 ≤ a1.length ∨ K = k0 := by rcases Q.gb.2 with ⟨h4, _⟩ | ⟨h4, _⟩ <;> omega
            have := gcB_lim Q.gb 3 h3
            omega
          have st := gstep (neg := neg) Q.pa Q.pb Q.zg Q.zh hK ta1 Q.tb hab (by omega) (by have := Q.gb.1; omega)
          have fin2 : ∀ S' : St, S'.σ 7 = .ptr 53 1 0 → S'.σ 8 = .bnd f_zgcd_sequence_step 53 1 → S'.σ 6 = .ptr 6 1 0 → S'.h 6 = ⟨1, some (.box 27 [.b (zn c), .sl none (uL (zl c))])⟩ → S'.σ 4 = .ptr 4 1 0 → S'.h 4 = ⟨1, some (.box 27 [.b false, .sl none []])⟩ →
              S'.h 53 = ⟨1, some (.box 60 (sqc b1 (exP (tr (psD a1 b1).2) (g * h ^ (a1.length - b1.length))) (ldL b1) (stH b1 h (a1.length - b1.length)) (neg != (oddL a1 && oddL b1))))⟩ → S'.h 9 = ⟨0, none⟩ → RsS k0 L a0 b0 sw c S' ∧ rsM S' < rsM S := fun S' e7 e8 e6 g6 e4 g4 g53 g9 =>
            ⟨⟨_, _, _, _, _, _, Q2, e7, e8, e6, g6, e4, g4, g53, g9⟩, by rw [dm, rsM_eq g53]; exact hlt⟩
          rw [sqc, ← hW] at st
          refine WS_seq (WS_seq (WS_reg [] ?_)); simp [s7, s8, s6, h6, s4, h4, h53, h9, hI, b1l]
          refine callK dB ?_; simp [s7, s8, s6, h6, s4, h4, h53, h9, hI, b1l]
          refine WS_cond (t := true) (by simp [s7, s8, s6, h6, s4, h4, h53, h9, hI, b1l]) (fun _ => ?_) (fun h => by cases h)
          refine WS_skip ?_; simp [s7, s8, s6, h6, s4, h4, h53, h9, hI, b1l]
          refine WS_block (WS_reg [] ?_); simp [s7, s8, s6, h6, s4, h4, h53, h9, hI, b1l]
          refine callG st ?_; simp [s7, s8, s6, h6, s4, h4, h53, h9, hI, b1l]
          refine fin2 _ ?_ ?_ ?_ ?_ ?_ ?_ ?_ ?_ <;> simp [s7, s8, s6, h6, s4, h4, h9]
        · have hI : ¬ (1 : Int) < (b1.length : Int) := by omega
          have hval : rsZ a b = resV b1 (a1.length - 1) h c neg ∧ (b1 = [] ∨ a1.length = a1.length - 1 + 1) := by
            by_cases hb : b1 = []
            · refine ⟨?_, .inl hb⟩
              rw [resV, if_pos hb]
              rcases Q.main with ⟨_, hz⟩ | ⟨E, I, _⟩
              · rw [su0, hsw, hz, Rat.mul_zero]
                simp
              · have := I.hb
                rw [hb] at this
                simp at this
            · have hb1 : b1.length = 1 := by have := List.length_pos_iff.2 hb; omega
              obtain ⟨e1, e2⟩ := rsQ_end Q hb1
              exact ⟨by rw [resV, if_neg hb]; exact fin neg _ sw a0 b0 e1 hsw, .inr (by omega)⟩
          have hK : K ≤ 2 ^ 15 := by
            have := gcB_lim Q.gb 2 Q.al
            omega
          have T := tail (a := a1) (g := g) (neg := neg) Q.pb Q.zh zc (by omega) Q.tb hval.2 hK (by have := Q.gb.1; omega)
          rw [← hval.1] at T
          refine WS_seq (WS_seq (WS_reg [] ?_)); simp [s7, s8, s6, h6, s4, h4, h53, h9, hI, b1l]
          refine callK dB ?_; simp [s7, s8, s6, h6, s4, h4, h53, h9, hI, b1l]
          refine WS_cond (t := false) (by simp [s7, s8, s6, h6, s4, h4, h53, h9, hI, b1l]) (fun h => by cases h) (fun _ => ?_)
          refine WS_exit ?_; simp [s7, s8, s6, h6, s4, h4, h53, h9, hI, b1l]
          refine T _ ?_ ?_ ?_ ?_ ?_ ?_ ?_ <;> simp [s7, s6, h6, s4, h4, h53', h9]
      clear fin su0
      by_cases hlt : (tr a).length < (tr b).length
      · have ssw2 : Su x y = sg ((y.length - 1) * (x.length - 1)) * Su y x := ssw
        have hmn : m < n := by omega
        have hlI : ((m : Nat) : Int) + 1 < (n : Int) + 1 := by omega
        have es : sgB (decide (m % 2 = 1) && decide (n % 2 = 1)) = sg ((y.length - 1) * (x.length - 1)) := by
          rw [lpa, lpb, hm, hn', Nat.add_sub_cancel, Nat.add_sub_cancel, sg_odd]
          unfold sgB
          by_cases h1 : m % 2 = 1 <;> by_cases h2 : n % 2 = 1 <;> simp [h1, h2]
        have Q0 := rsQ_init (L := L) (sw := sg ((y.length - 1) * (x.length - 1))) hk qb qa tb ta (by omega) (by omega) (by omega) es
        have R := rest y x _ _ Q0 ssw2
        rw [sqc] at R
        have tA : (m : Int).tmod 2 = ((m % 2 : Nat) : Int) := rfl
        have tB : (n : Int).tmod 2 = ((n % 2 : Nat) : Int) := rfl
        clear rest ssw ssw2 es Q0
        obtain ⟨X, hX⟩ : ∃ X, X = PZ x := ⟨_, rfl⟩
        obtain ⟨Y, hY⟩ : ∃ X, X = PZ y := ⟨_, rfl⟩
        rw [← hX] at R p1
        rw [← hY] at R p2
        obtain ⟨A, hA⟩ : ∃ A, A = PZ (tr a) := ⟨_, rfl⟩
        obtain ⟨B, hB⟩ : ∃ A, A = PZ (tr b) := ⟨_, rfl⟩
        rw [← hA] at n1 al c1 dA p1
        rw [← hB] at n2 bl c2 dB p2
        obtain ⟨ng, hng⟩ : ∃ g, g = (decide (m % 2 = 1) && decide (n % 2 = 1)) := ⟨_, rfl⟩
        rw [← hng] at R
        unfold sc_zgcd_Resultant at R
        simp only [SC.snd] at R
        rw [hm] at al
        rw [hn'] at bl
        clear a65 b65 laI lbI la0 lb0 hlt
        have a65 : ¬ (65 : Int) < (m : Int) + 1 := by omega
        have b65 : ¬ (65 : Int) < (n : Int) + 1 := by omega
        have laI : ((m : Int) + 1 == 0) = false := by simp; omega
        have lbI : ((n : Int) + 1 == 0) = false := by simp; omega
        have laN : ¬ (m : Int) + 1 = 0 := by omega
        have lbN : ¬ (n : Int) + 1 = 0 := by omega
        refine spec_at Try.func9 ok_zgcd_Resultant [] rfl (by simp) ?_
        unfold sc_zgcd_Resultant
        by_cases hm2 : m % 2 = 1
        · have e : ng = decide (n % 2 = 1) := by rw [hng, decide_eq_true hm2, Bool.true_and]
          refine WS_seq (WS_reg [] ?_); simp [al, bl, a65, b65, laI, lbI, laN, lbN, hmn, hlI, tA, tB, hm2, odd_beq]
          refine WS_seq (WS_reg [] ?_); simp [al, bl, a65, b65, laI, lbI, laN, lbN, hmn, hlI, tA, tB, hm2, odd_beq]
          refine callK n1 ?_; simp [al, bl, a65, b65, laI, lbI, laN, lbN, hmn, hlI, tA, tB, hm2, odd_beq]
          refine callK n2 ?_; simp [al, bl, a65, b65, laI, lbI, laN, lbN, hmn, hlI, tA, tB, hm2, odd_beq]
          refine WS_seq (WS_block (WS_seq (WS_reg [] ?_))); simp [al, bl, a65, b65, laI, lbI, laN, lbN, hmn, hlI, tA, tB, hm2, odd_beq]
          refine WS_cond (t := false) (by simp [al, bl, a65, b65, laI, lbI, laN, lbN, hmn, hlI, tA, tB, hm2, odd_beq]) (fun h => by cases h) (fun _ => ?_)
          refine WS_seq (WS_reg [] ?_); simp [al, bl, a65, b65, laI, lbI, laN, lbN, hmn, hlI, tA, tB, hm2, odd_beq]
          refine WS_cond (t := false) (by simp [al, bl, a65, b65, laI, lbI, laN, lbN, hmn, hlI, tA, tB, hm2, odd_beq]) (fun h => by cases h) (fun _ => ?_)
          refine WS_skip ?_; simp [al, bl, a65, b65, laI, lbI, laN, lbN, hmn, hlI, tA, tB, hm2, odd_beq]
          refine WS_seq (WS_reg [] ?_); simp [al, bl, a65, b65, laI, lbI, laN, lbN, hmn, hlI, tA, tB, hm2, odd_beq]
          refine callK c1 ?_; simp [al, bl, a65, b65, laI, lbI, laN, lbN, hmn, hlI, tA, tB, hm2, odd_beq]
          refine callK dB ?_; simp [al, bl, a65, b65, laI, lbI, laN, lbN, hmn, hlI, tA, tB, hm2, odd_beq]
          refine callK w1 ?_; simp [al, bl, a65, b65, laI, lbI, laN, lbN, hmn, hlI, tA, tB, hm2, odd_beq]
          refine callK c2 ?_; simp [al, bl, a65, b65, laI, lbI, laN, lbN, hmn, hlI, tA, tB, hm2, odd_beq]
          refine callK dA ?_; simp [al, bl, a65, b65, laI, lbI, laN, lbN, hmn, hlI, tA, tB, hm2, odd_beq]
          refine callK w2 ?_; simp [al, bl, a65, b65, laI, lbI, laN, lbN, hmn, hlI, tA, tB, hm2, odd_beq]
          refine callK mu ?_; simp [al, bl, a65, b65, laI, lbI, laN, lbN, hmn, hlI, tA, tB, hm2, odd_beq]
          refine WS_seq (WS_reg [] ?_); simp [al, bl, a65, b65, laI, lbI, laN, lbN, hmn, hlI, tA, tB, hm2, odd_beq]
          refine callK p1 ?_; simp [al, bl, a65, b65, laI, lbI, laN, lbN, hmn, hlI, tA, tB, hm2, odd_beq]
          refine callK p2 ?_; simp [al, bl, a65, b65, laI, lbI, laN, lbN, hmn, hlI, tA, tB, hm2, odd_beq]
          refine callK o1 ?_; simp [al, bl, a65, b65, laI, lbI, laN, lbN, hmn, hlI, tA, tB, hm2, odd_beq]
          refine callK o1 ?_; simp [al, bl, a65, b65, laI, lbI, laN, lbN, hmn, hlI, tA, tB, hm2, odd_beq]
          refine WS_seq (WS_seq (WS_reg [] ?_)); simp [al, bl, a65, b65, laI, lbI, laN, lbN, hmn, hlI, tA, tB, hm2, odd_beq]
          refine WS_cond (t := true) (by simp [al, bl, a65, b65, laI, lbI, laN, lbN, hmn, hlI, tA, tB, hm2, odd_beq]) (fun _ => ?_) (fun h => by cases h)
          refine WS_seq (WS_regD [] ?_); simp [al, bl, a65, b65, laI, lbI, laN, lbN, hmn, hlI, tA, tB, hm2, odd_beq]
          refine ⟨rfl, ?_⟩
          refine WS_reg [] ?_; simp [al, bl, a65, b65, laI, lbI, laN, lbN, hmn, hlI, tA, tB, hm2, odd_beq]
          refine callK dA ?_; simp [al, bl, a65, b65, laI, lbI, laN, lbN, hmn, hlI, tA, tB, hm2, odd_beq]
          refine callK dB ?_; simp [al, bl, a65, b65, laI, lbI, laN, lbN, hmn, hlI, tA, tB, hm2, odd_beq]
          refine R _ ?_ ?_ ?_ ?_ ?_ ?_ ?_ <;> simp [e, odd_beq]
        · have e : ng = false := by rw [hng, decide_eq_false hm2, Bool.false_and]
          have hm3 : m % 2 = 0 := by omega
          refine WS_seq (WS_reg [] ?_); simp [al, bl, a65, b65, laI, lbI, laN, lbN, hmn, hlI, tA, tB, hm3, odd_beq]
          refine WS_seq (WS_reg [] ?_); simp [al, bl, a65, b65, laI, lbI, laN, lbN, hmn, hlI, tA, tB, hm3, odd_beq]
          refine callK n1 ?_; simp [al, bl, a65, b65, laI, lbI, laN, lbN, hmn, hlI, tA, tB, hm3, odd_beq]
          refine callK n2 ?_; simp [al, bl, a65, b65, laI, lbI, laN, lbN, hmn, hlI, tA, tB, hm3, odd_beq]
          refine WS_seq (WS_block (WS_seq (WS_reg [] ?_))); simp [al, bl, a65, b65, laI, lbI, laN, lbN, hmn, hlI, tA, tB, hm3, odd_beq]
          refine WS_cond (t := false) (by simp [al, bl, a65, b65, laI, lbI, laN, lbN, hmn, hlI, tA, tB, hm3, odd_beq]) (fun h => by cases h) (fun _ => ?_)
          refine WS_seq (WS_reg [] ?_); simp [al, bl, a65, b65, laI, lbI, laN, lbN, hmn, hlI, tA, tB, hm3, odd_beq]
          refine WS_cond (t := false) (by simp [al, bl, a65, b65, laI, lbI, laN, lbN, hmn, hlI, tA, tB, hm3, odd_beq]) (fun h => by cases h) (fun _ => ?_)
          refine WS_skip ?_; simp [al, bl, a65, b65, laI, lbI, laN, lbN, hmn, hlI, tA, tB, hm3, odd_beq]
          refine WS_seq (WS_reg [] ?_); simp [al, bl, a65, b65, laI, lbI, laN, lbN, hmn, hlI, tA, tB, hm3, odd_beq]
          refine callK c1 ?_; simp [al, bl, a65, b65, laI, lbI, laN, lbN, hmn, hlI, tA, tB, hm3, odd_beq]
          refine callK dB ?_; simp [al, bl, a65, b65, laI, lbI, laN, lbN, hmn, hlI, tA, tB, hm3, odd_beq]
          refine callK w1 ?_; simp [al, bl, a65, b65, laI, lbI, laN, lbN, hmn, hlI, tA, tB, hm3, odd_beq]
          refine callK c2 ?_; simp [al, bl, a65, b65, laI, lbI, laN, lbN, hmn, hlI, tA, tB, hm3, odd_beq]
          refine callK dA ?_; simp [al, bl, a65, b65, laI, lbI, laN, lbN, hmn, hlI, tA, tB, hm3, odd_beq]
          refine callK w2 ?_; simp [al, bl, a65, b65, laI, lbI, laN, lbN, hmn, hlI, tA, tB, hm3, odd_beq]
          refine callK mu ?_; simp [al, bl, a65, b65, laI, lbI, laN, lbN, hmn, hlI, tA, tB, hm3, odd_beq]
          refine WS_seq (WS_reg [] ?_); simp [al, bl, a65, b65, laI, lbI, laN, lbN, hmn, hlI, tA, tB, hm3, odd_beq]
          refine callK p1 ?_; simp [al, bl, a65, b65, laI, lbI, laN, lbN, hmn, hlI, tA, tB, hm3, odd_beq]
          refine callK p2 ?_; simp [al, bl, a65, b65, laI, lbI, laN, lbN, hmn, hlI, tA, tB, hm3, odd_beq]
          refine callK o1 ?_; simp [al, bl, a65, b65, laI, lbI, laN, lbN, hmn, hlI, tA, tB, hm3, odd_beq]
          refine callK o1 ?_; simp [al, bl, a65, b65, laI, lbI, laN, lbN, hmn, hlI, tA, tB, hm3, odd_beq]
          refine WS_seq (WS_seq (WS_reg [] ?_)); simp [al, bl, a65, b65, laI, lbI, laN, lbN, hmn, hlI, tA, tB, hm3, odd_beq]
          refine WS_cond (t := true) (by simp [al, bl, a65, b65, laI, lbI, laN, lbN, hmn, hlI, tA, tB, hm3, odd_beq]) (fun _ => ?_) (fun h => by cases h)
          refine WS_seq (WS_regD [] ?_); simp [al, bl, a65, b65, laI, lbI, laN, lbN, hmn, hlI, tA, tB, hm3, odd_beq]
          refine ⟨rfl, ?_⟩
          refine WS_reg [] ?_; simp [al, bl, a65, b65, laI, lbI, laN, lbN, hmn, hlI, tA, tB, hm3, odd_beq]
          refine callK dA ?_; simp [al, bl, a65, b65, laI, lbI, laN, lbN, hmn, hlI, tA, tB, hm3, odd_beq]
          refine R _ ?_ ?_ ?_ ?_ ?_ ?_ ?_ <;> simp [e, odd_beq]
      · have hmn : ¬ m < n := by omega
        have hlI : ¬ ((m : Nat) : Int) + 1 < (n : Int) + 1 := by omega
        have Q0 := rsQ_init (L := L) (sw := 1) (neg := false) hk qa qb ta tb (by omega) (by omega) (by omega) rfl
        have R := rest x y _ _ Q0 (by rw [Rat.one_mul])
        rw [sqc] at R
        clear rest ssw Q0
        obtain ⟨X, hX⟩ : ∃ X, X = PZ x := ⟨_, rfl⟩
        obtain ⟨Y, hY⟩ : ∃ X, X = PZ y := ⟨_, rfl⟩
        rw [← hX] at R p1
        rw [← hY] at R p2
        obtain ⟨A, hA⟩ : ∃ A, A = PZ (tr a) := ⟨_, rfl⟩
        obtain ⟨B, hB⟩ : ∃ A, A = PZ (tr b) := ⟨_, rfl⟩
        rw [← hA] at n1 al c1 dA p1
        rw [← hB] at n2 bl c2 dB p2
        unfold sc_zgcd_Resultant at R
        simp only [SC.snd] at R
        rw [hm] at al
        rw [hn'] at bl
        clear a65 b65 laI lbI la0 lb0 hlt
        have a65 : ¬ (65 : Int) < (m : Int) + 1 := by omega
        have b65 : ¬ (65 : Int) < (n : Int) + 1 := by omega
        have laI : ((m : Int) + 1 == 0) = false := by simp; omega
        have lbI : ((n : Int) + 1 == 0) = false := by simp; omega
        have laN : ¬ (m : Int) + 1 = 0 := by omega
        have lbN : ¬ (n : Int) + 1 = 0 := by omega
        refine spec_at Try.func9 ok_zgcd_Resultant [] rfl (by simp) ?_
        unfold sc_zgcd_Resultant
        refine WS_seq (WS_reg [] ?_); simp [al, bl, a65, b65, laI, lbI, laN, lbN, hmn, hlI]
        refine WS_seq (WS_reg [] ?_); simp [al, bl, a65, b65, laI, lbI, laN, lbN, hmn, hlI]
        refine callK n1 ?_; simp [al, bl, a65, b65, laI, lbI, laN, lbN, hmn, hlI]
        refine callK n2 ?_; simp [al, bl, a65, b65, laI, lbI, laN, lbN, hmn, hlI]
        refine WS_seq (WS_block (WS_seq (WS_reg [] ?_))); simp [al, bl, a65, b65, laI, lbI, laN, lbN, hmn, hlI]
        refine WS_cond (t := false) (by simp [al, bl, a65, b65, laI, lbI, laN, lbN, hmn, hlI]) (fun h => by cases h) (fun _ => ?_)
        refine WS_seq (WS_reg [] ?_); simp [al, bl, a65, b65, laI, lbI, laN, lbN, hmn, hlI]
        refine WS_cond (t := false) (by simp [al, bl, a65, b65, laI, lbI, laN, lbN, hmn, hlI]) (fun h => by cases h) (fun _ => ?_)
        refine WS_skip ?_; simp [al, bl, a65, b65, laI, lbI, laN, lbN, hmn, hlI]
        refine WS_seq (WS_reg [] ?_); simp [al, bl, a65, b65, laI, lbI, laN, lbN, hmn, hlI]
        refine callK c1 ?_; simp [al, bl, a65, b65, laI, lbI, laN, lbN, hmn, hlI]
        refine callK dB ?_; simp [al, bl, a65, b65, laI, lbI, laN, lbN, hmn, hlI]
        refine callK w1 ?_; simp [al, bl, a65, b65, laI, lbI, laN, lbN, hmn, hlI]
        refine callK c2 ?_; simp [al, bl, a65, b65, laI, lbI, laN, lbN, hmn, hlI]
        refine callK dA ?_; simp [al, bl, a65, b65, laI, lbI, laN, lbN, hmn, hlI]
        refine callK w2 ?_; simp [al, bl, a65, b65, laI, lbI, laN, lbN, hmn, hlI]
        refine callK mu ?_; simp [al, bl, a65, b65, laI, lbI, laN, lbN, hmn, hlI]
        refine WS_seq (WS_reg [] ?_); simp [al, bl, a65, b65, laI, lbI, laN, lbN, hmn, hlI]
        refine callK p1 ?_; simp [al, bl, a65, b65, laI, lbI, laN, lbN, hmn, hlI]
        refine callK p2 ?_; simp [al, bl, a65, b65, laI, lbI, laN, lbN, hmn, hlI]
        refine callK o1 ?_; simp [al, bl, a65, b65, laI, lbI, laN, lbN, hmn, hlI]
        refine callK o1 ?_; simp [al, bl, a65, b65, laI, lbI, laN, lbN, hmn, hlI]
        refine WS_seq (WS_seq (WS_reg [] ?_)); simp [al, bl, a65, b65, laI, lbI, laN, lbN, hmn, hlI]
        refine WS_cond (t := false) (by simp [al, bl, a65, b65, laI, lbI, laN, lbN, hmn, hlI]) (fun h => by cases h) (fun _ => ?_)
        refine WS_skip ?_; simp [al, bl, a65, b65, laI, lbI, laN, lbN, hmn, hlI]
        refine R _ ?_ ?_ ?_ ?_ ?_ ?_ ?_ <;> simp
end Go.Vw
set_option linter.unusedVariables false
set_option linter.unusedSimpArgs false
namespace Go.Vw
open Go.Proofs Go.Py Go.Dt

theorem sign_beq (x : Int) : (x.sign == 0) = decide (x = 0) := by
  by_cases h : x = 0
  · subst h; rfl
  · rw [decide_eq_false h]
    simpa [Int.sign_eq_zero_iff_zero] using h

attribute [local simp] RunL_cons RunL_nil AOp_none AOp_some acK_v acK_call agK_tt agK_ff agK_tf agK_ft agK_tup agK_i aop aun St.ev St.heap St.put thenQ blockQ scopeQ upd_apply S0 argSlot lowV V.cells V.isAgg V.fits V.part partOk plains St.ret retSV svOf svsOf retQ retP retAll retOne uL_length uL_get? uL_get St.elems retH ownIdx ownAt
attribute [local simp] RunD_none RunD_some RunD_nil RunE_any acD_v acD_call agD_tt agD_ff agD_tf agD_ft agD_tup entsOf svref SO.opds SO.writes SO.makes callEnt pureSV pureOf RV.isOwn
attribute [local simp] abin_add abin_sub abin_mul abin_quo abin_rem abin_eql abin_neq abin_lss abin_leq abin_gtr abin_geq
attribute [local simp] uL_snoc uL_set uL_take uL_drop uL_append uL_replicate uL_nil
attribute [local simp] acK_callG acD_callG St.giv gsSV gvSV retEnts ownEnts SO.still
attribute [local simp] S0G argSlotG givSV retQG retPG retAllG retOneG HObj.width V.scalar trimQ V.byte
attribute [local simp] zv V.fits fillOk fillV Z_eq
end Go.Vw
set_option linter.unusedVariables false
set_option linter.unusedSimpArgs false
namespace Go.Vw
open Go.Proofs Go.Py Go.Dt

/-- Products of numbers of one limb. -/
theorem cf_mul_lim : ∀ (a b : List Int), PL 1 a → PL 1 b → ∀ i, (cf (mulL a b) i).natAbs ≤ a.length * (18446744073709551615 * 18446744073709551615)
  | [], b, _, _, i => by simp [mulL, cf_nil]
  | x :: a, b, ha, hb, i => by
    have hx : x.natAbs ≤ 18446744073709551615 := by
      have h1 := lt_zlen x
      have h2 := ha 0
      rw [cf_zero] at h2
      have : 18446744073709551616 ^ zlen x ≤ 18446744073709551616 ^ 1 := Nat.pow_le_pow_right (by omega) h2
      omega
    have hc : ∀ j, (x * cf b j).natAbs ≤ 18446744073709551615 * 18446744073709551615 := fun j => by
      rw [Int.natAbs_mul]
      have h1 := lt_zlen (cf b j)
      have h2 : 18446744073709551616 ^ zlen (cf b j) ≤ 18446744073709551616 ^ 1 := Nat.pow_le_pow_right (by omega) (hb j)
      exact Nat.mul_le_mul hx (by omega)
    rw [List.length_cons, Nat.add_mul, Nat.one_mul]
    cases i with
    | zero =>
      rw [cf_mulL_zero]
      have := hc 0
      omega
    | succ i =>
      rw [cf_mulL_succ]
      have h1 := hc (i + 1)
      have h2 := cf_mul_lim a b (fun j => by have := ha (j + 1); rwa [cf_succ] at this) hb i
      have h3 := Int.natAbs_add_le (x * cf b (i + 1)) (cf (mulL a b) i)
      omega
theorem pl_mul3 {a b : List Int} (ha : PL 1 a) (hb : PL 1 b) (la : a.length ≤ 5) : PL 3 (tr (mulL a b)) := fun i => by
  rw [cf_tr]
  refine zlen_lt (Nat.lt_of_le_of_lt (cf_mul_lim a b ha hb i) ?_)
  have : a.length * (18446744073709551615 * 18446744073709551615) ≤ 5 * (18446744073709551615 * 18446744073709551615) := Nat.mul_le_mul_right _ la
  omega
theorem odd_mul {p q : Nat} : ((((p + 1 : Nat) : Int) - 1) * (((q + 1 : Nat) : Int) - 1)).tmod 2 = (((p * q) % 2 : Nat) : Int) := by
  rw [show ((p + 1 : Nat) : Int) - 1 = (p : Int) by omega, show ((q + 1 : Nat) : Int) - 1 = (q : Int) by omega, ← Int.natCast_mul]
  rfl
theorem odd_and {p q : Nat} : (p * q) % 2 = 1 ↔ p % 2 = 1 ∧ q % 2 = 1 := by
  rw [Nat.mul_mod]
  rcases Nat.mod_two_eq_zero_or_one p with h | h <;> rcases Nat.mod_two_eq_zero_or_one q with h2 | h2 <;> rw [h, h2] <;> simp

attribute [local simp] RunL_cons RunL_nil AOp_none AOp_some acK_v acK_call agK_tt agK_ff agK_tf agK_ft agK_tup agK_i aop aun St.ev St.heap St.put thenQ blockQ scopeQ upd_apply S0 argSlot lowV V.cells V.isAgg V.fits V.part partOk plains St.ret retSV svOf svsOf retQ retP retAll retOne uL_length uL_get? uL_get St.elems retH ownIdx ownAt
attribute [local simp] RunD_none RunD_some RunD_nil RunE_any acD_v acD_call agD_tt agD_ff agD_tf agD_ft agD_tup entsOf svref SO.opds SO.writes SO.makes callEnt pureSV pureOf RV.isOwn
attribute [local simp] abin_add abin_sub abin_mul abin_quo abin_rem abin_eql abin_neq abin_lss abin_leq abin_gtr abin_geq
attribute [local simp] uL_snoc uL_set uL_take uL_drop uL_append uL_replicate uL_nil
attribute [local simp] acK_callG acD_callG St.giv gsSV gvSV retEnts ownEnts SO.still
attribute [local simp] S0G argSlotG givSV retQG retPG retAllG retOneG HObj.width V.scalar trimQ V.byte
attribute [local simp] zv V.fits fillOk fillV Z_eq
end Go.Vw

