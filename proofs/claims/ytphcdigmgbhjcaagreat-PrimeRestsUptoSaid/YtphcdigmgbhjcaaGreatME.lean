/- Integers: common divisors, powers, roots. -/
import Derived.Test.YtphcdigmgbhjcaaGreatMD
import Derived.Test.YtphcdigmgbhjcaaGreatMB
import Derived.Test.YtphcdigmgbhjcaaGreatMA
set_option linter.unusedVariables false
set_option linter.unusedSimpArgs false
namespace Go.Vw
open Go.Proofs

def vM (xs : List V) : Nat := Nm.val 18446744073709551616 (xs.map fun | .i _ n => n.toNat | _ => 0)
theorem vM_eq (l : List Nat) : vM (uL l) = Nm.val 18446744073709551616 l := by
  simp only [vM, uL, List.map_map]
  congr 1
  have : ((fun | V.i _ n => n.toNat | _ => 0) ∘ fun x : Nat => V.i .u64 (x : Int)) = id := by funext x; simp
  rw [this, List.map_id]
/-- The number that a slot, or a box, holds: what Euclid's way makes less. -/
def slM (i : Nat) (S : St) : Nat := match S.σ i with | .p (.sl _ xs) => vM xs | _ => 0
def bxM (i : Nat) (S : St) : Nat := match (S.h i).o with | some (.box _ [_, .sl _ xs]) => vM xs | _ => 0
theorem slM_eq {i : Nat} {S : St} {l : List Nat} (h : S.σ i = .p (U l)) : slM i S = Nm.val 18446744073709551616 l := by simp only [slM, h, U, vM_eq]
theorem bxM_eq {i g t : Nat} {S : St} {n : V} {l : List Nat} (h : S.h i = ⟨g, some (.box t [n, .sl none (uL l)])⟩) : bxM i S = Nm.val 18446744073709551616 l := by simp only [bxM, h, vM_eq]

def GcdZ (g K : Nat) (S : St) : Prop := ∃ x y : Nat, S.σ 5 = .p (U (Nm.dig 18446744073709551616 x)) ∧ S.σ 6 = .p (U (Nm.dig 18446744073709551616 y)) ∧ x < 18446744073709551616 ^ K ∧ y < 18446744073709551616 ^ K ∧ Nat.gcd x y = g ∧
  S.σ 4 = .ptr 4 1 0 ∧ S.h 4 = ⟨1, some (.box 24 [.b false, .sl none []])⟩
def GcdR (g K : Nat) (S : St) : Prop := ∃ x y : Int, S.h 5 = ⟨1, some (.box 24 [.b (zn x), .sl none (uL (zl x))])⟩ ∧ S.h 6 = ⟨1, some (.box 24 [.b (zn y), .sl none (uL (zl y))])⟩ ∧ zlen x ≤ K ∧ zlen y ≤ K ∧ 0 ≤ x ∧ 0 ≤ y ∧ Int.gcd x y = g ∧
  S.σ 5 = .ptr 5 1 0 ∧ S.σ 6 = .ptr 6 1 0 ∧ S.σ 4 = .ptr 4 1 0 ∧ S.h 4 = ⟨1, some (.box 24 [.b false, .sl none []])⟩

theorem gcd_step {x y g : Nat} (h : Nat.gcd x y = g) : Nat.gcd y (x % y) = g := by
  rw [← h, Nat.gcd_comm x y, Nat.gcd_comm y (x % y)]
  exact (Nat.gcd_rec y x).symm

attribute [local simp] RunL_cons RunL_nil AOp_none AOp_some acK_v acK_call agK_tt agK_ff agK_tf agK_ft agK_tup agK_i aop aun St.ev St.heap St.put thenQ blockQ scopeQ upd_apply S0 argSlot lowV V.cells V.isAgg V.fits V.part partOk plains St.ret retSV svOf svsOf retQ retP retAll retOne uL_length uL_get? uL_get St.elems retH ownIdx ownAt
attribute [local simp] RunD_none RunD_some RunD_nil RunE_any acD_v acD_call agD_tt agD_ff agD_tf agD_ft agD_tup entsOf svref SO.opds SO.writes SO.makes callEnt pureSV pureOf RV.isOwn
attribute [local simp] abin_add abin_sub abin_mul abin_quo abin_rem abin_eql abin_neq abin_lss abin_leq abin_gtr abin_geq
attribute [local simp] uL_snoc uL_set uL_take uL_drop uL_append uL_replicate uL_nil
attribute [local simp] acK_callG acD_callG St.giv gsSV gvSV retEnts ownEnts SO.still
attribute [local simp] S0G argSlotG givSV retQG retPG retAllG retOneG HObj.width V.scalar trimQ V.byte
attribute [local simp] zv V.fits fillOk fillV Z_eq
theorem zgcd {k : Nat} {v w : V} {x y : Int} (hv : IsZ k v x) (hw : IsZ k w y) (hk : k ≤ 2 ^ 33) : Spec Tryz.prog f_zint_Gcd [v, w] (· = [.pure (Z (Int.gcd x y : Int))]) := by
  obtain ⟨n1, l1, rfl, h1, rfl⟩ := hv
  obtain ⟨n2, l2, rfl, h2, rfl⟩ := hw
  have c1 := h1.len
  have c2 := h2.len
  have m1 := nnorm_spec l1 (by omega)
  have m2 := nnorm_spec l2 (by omega)
  rw [← Nm.dig_val (by omega) h1.dl] at m1
  rw [← Nm.dig_val (by omega) h2.dl] at m2
  have v1 := lt_zlen' (isZ_zv (n := n1) h1).zlen
  have v2 := lt_zlen' (isZ_zv (n := n2) h2).zlen
  have eg : Int.gcd (zi n1 l1) (zi n2 l2) = Nat.gcd (Nm.val 18446744073709551616 l1) (Nm.val 18446744073709551616 l2) := by rw [Int.gcd, zi_abs, zi_abs]
  rw [zi_abs] at v1 v2
  obtain ⟨g, hg⟩ : ∃ g, g = Int.gcd (zi n1 l1) (zi n2 l2) := ⟨_, rfl⟩
  rw [← hg] at eg ⊢
  obtain ⟨a, ha⟩ : ∃ a, a = Nm.val 18446744073709551616 l1 := ⟨_, rfl⟩
  obtain ⟨b, hb⟩ : ∃ a, a = Nm.val 18446744073709551616 l2 := ⟨_, rfl⟩
  rw [← ha] at m1 v1 eg
  rw [← hb] at m2 v2 eg
  refine spec_at Tryz.func68 ok_zint_Gcd [] rfl (by simp) ?_
  unfold sc_zint_Gcd
  refine WS_seq (WS_reg [] ?_); simp
  refine WS_seq (WS_regD [] ?_); simp
  refine callD m1 rfl ?_; simp
  refine callD m2 rfl ?_; simp
  refine ⟨rfl, ?_⟩
  refine WS_seq (WS_block ?_)
  refine WS_loop (GcdZ g k) (slM 6) ⟨a, b, rfl, rfl, v1, v2, eg.symm, rfl, rfl⟩ ?_
  rintro S ⟨x, y, s5, s6, hx, hy, hxy, s4, h4⟩
  have dx := slM_eq s6
  rw [Nm.val_dig (by omega)] at dx
  have lx := Nm.dig_length_le (B := 18446744073709551616) (by omega) hx
  have ly := Nm.dig_length_le (B := 18446744073709551616) (by omega) hy
  by_cases h0 : y = 0
  · subst h0
    rw [Nat.gcd_zero_right] at hxy
    subst hxy
    have mk := made_spec false (Nm.dig 18446744073709551616 x) ⟨Nm.dig_lt (by omega) _, by omega⟩
    have e : zi false (Nm.dig 18446744073709551616 x) = (x : Int) := by simp [zi, Nm.val_dig]
    rw [e] at mk
    refine WS_seq (WS_seq (WS_reg [] ?_)); simp [s5, s6, s4, h4, U, Nm.dig_zero]
    refine WS_cond (t := false) (by simp [s5, s6, s4, h4, U, Nm.dig_zero]) (fun h => by cases h) (fun _ => ?_)
    refine WS_exit ?_; simp [s5, s6, s4, h4, U, Nm.dig_zero]
    refine WS_seq (WS_reg [] ?_); simp [s5, s6, s4, h4, U, Nm.dig_zero]
    refine callK mk ?_; simp [s5, s6, s4, h4, U, Nm.dig_zero]
    refine WS_ret ?_; simp [s5, s6, s4, h4, U, Nm.dig_zero]
  · have dv := ndiv_spec (Nm.dig 18446744073709551616 x) (Nm.dig 18446744073709551616 y) (Nm.dig_lt (by omega) _) (Nm.dig_lt (by omega) _) (by omega) (by omega) (by rw [Nm.val_dig (by omega)]; exact h0)
    rw [Nm.val_dig (by omega), Nm.val_dig (by omega)] at dv
    have hp := Nm.dig_length_pos (B := 18446744073709551616) (by omega) h0
    have hr := Nat.mod_lt x (show 0 < y by omega)
    refine WS_seq (WS_seq (WS_reg [] ?_)); simp [s5, s6, s4, h4, U, hp]
    refine WS_cond (t := true) (by simp [s5, s6, s4, h4, U, hp]) (fun _ => ?_) (fun h => by cases h)
    refine WS_skip ?_; simp [s5, s6, s4, h4, U, hp]
    refine WS_block (WS_seq (WS_reg [] ?_)); simp [s5, s6, s4, h4, U, hp]
    refine callK dv ?_; simp [s5, s6, s4, h4, U, hp]
    refine WS_reg [] ?_; simp [s5, s6, s4, h4, U, hp]
    refine ⟨⟨y, x % y, by simp [s6, U], by simp [U], hy, by omega, gcd_step hxy, by simp [s4], by simp [h4]⟩, ?_⟩
    rw [dx, slM_eq (l := Nm.dig 18446744073709551616 (x % y)) (by simp [U]), Nm.val_dig (by omega)]
    exact hr

theorem rgcd {k : Nat} {v w : V} {x y : Int} (hv : IsZ k v x) (hw : IsZ k w y) (hk : k ≤ 2 ^ 33) : Spec Tryz.prog f_ref02_Gcd [v, w] (· = [.pure (Z (Int.gcd x y : Int))]) := by
  have a1 := rabs hv (by omega)
  have a2 := rabs hw (by omega)
  have z1 := hv.zlen
  have z2 := hw.zlen
  obtain ⟨n1, l1, rfl, h1, rfl⟩ := hv
  obtain ⟨n2, l2, rfl, h2, rfl⟩ := hw
  obtain ⟨g, hg⟩ : ∃ g, g = Int.gcd (zi n1 l1) (zi n2 l2) := ⟨_, rfl⟩
  have eg : Int.gcd ((zi n1 l1).natAbs : Int) ((zi n2 l2).natAbs : Int) = g := by rw [hg]; simp [Int.gcd]
  have w1 : zlen ((zi n1 l1).natAbs : Int) ≤ k := Nat.le_trans (zlen_le (by simp)) z1
  have w2 : zlen ((zi n2 l2).natAbs : Int) ≤ k := Nat.le_trans (zlen_le (by simp)) z2
  rw [← hg]
  obtain ⟨a, ha⟩ : ∃ a : Int, a = ((zi n1 l1).natAbs : Int) := ⟨_, rfl⟩
  obtain ⟨b, hb⟩ : ∃ a : Int, a = ((zi n2 l2).natAbs : Int) := ⟨_, rfl⟩
  rw [← ha] at a1 eg w1
  rw [← hb] at a2 eg w2
  refine spec_at Tryz.func73 ok_ref02_Gcd [] rfl (by simp) ?_
  unfold sc_ref02_Gcd
  refine WS_seq (WS_reg [] ?_); simp
  refine WS_seq (WS_reg [] ?_); simp
  refine callK a1 ?_; simp
  refine WS_seq (WS_reg [] ?_); simp
  refine callK a2 ?_; simp
  refine WS_seq (WS_block ?_)
  refine WS_loop (GcdR g k) (bxM 6) ⟨a, b, rfl, rfl, w1, w2, by omega, by omega, eg, rfl, rfl, rfl, rfl⟩ ?_
  rintro S ⟨x, y, h5, h6, lx, ly, px, py, hxy, s5, s6, s4, h4⟩
  have dx := bxM_eq h6
  rw [zl, Nm.val_dig (by omega)] at dx
  have sg := rsign (isZ_Z ly) (by omega)
  by_cases h0 : y = 0
  · subst h0
    have hxy : x = (g : Int) := by rw [Int.gcd_zero_right] at hxy; omega
    subst hxy
    refine WS_seq (WS_seq (WS_reg [] ?_)); simp [s5, s6, s4, h4, h5, h6]
    refine callK sg ?_; simp [s5, s6, s4, h4, h5, h6]
    refine WS_cond (t := false) (by simp [s5, s6, s4, h4, h5, h6]) (fun h => by cases h) (fun _ => ?_)
    refine WS_exit ?_; simp [s5, s6, s4, h4, h5, h6]
    refine WS_seq (WS_reg [] ?_); simp [s5, s6, s4, h4, h5, h6]
    refine WS_ret ?_; simp [s5, s6, s4, h4, h5, h6]
  · have dv := rdivz (isZ_Z lx) (isZ_Z ly) (by omega) h0
    have hr := Int.emod_lt_of_pos x (show 0 < y by omega)
    have hr0 := Int.emod_nonneg x h0
    have sp : y.sign = 1 := Int.sign_eq_one_of_pos (by omega)
    rw [sp] at sg
    refine WS_seq (WS_seq (WS_reg [] ?_)); simp [s5, s6, s4, h4, h5, h6]
    refine callK sg ?_; simp [s5, s6, s4, h4, h5, h6]
    refine WS_cond (t := true) (by simp [s5, s6, s4, h4, h5, h6]) (fun _ => ?_) (fun h => by cases h)
    refine WS_skip ?_; simp [s5, s6, s4, h4, h5, h6]
    refine WS_block (WS_seq (WS_reg [] ?_)); simp [s5, s6, s4, h4, h5, h6]
    refine callK dv ?_; simp [s5, s6, s4, h4, h5, h6]
    refine WS_seq (WS_reg [] ?_); simp [s5, s6, s4, h4, h5, h6]
    refine WS_reg [] ?_; simp [s5, s6, s4, h4, h5, h6]
    refine ⟨⟨y, x % y, by simp, by simp, ly, Nat.le_trans (zlen_emod x y h0) ly, py, hr0, ?_, by simp [s5], by simp [s6], by simp [s4], by simp [h4]⟩, ?_⟩
    · rw [← hxy, Int.gcd_comm x y, Int.gcd, Int.gcd, Int.natAbs_emod_of_nonneg px]
      exact gcd_step rfl |>.trans (Nat.gcd_comm _ _)
    · rw [dx, bxM_eq (g := 1) (t := 24) (n := .b (zn (x % y))) (l := zl (x % y)) (by simp), zl, Nm.val_dig (by omega)]
      omega

end Go.Vw
set_option linter.unusedVariables false
set_option linter.unusedSimpArgs false
namespace Go.Vw
open Go.Proofs

def bez (x y : Int × Int × Int) : Int × Int × Int :=
  if h : y.1 = 0 then x else bez y (x.1 % y.1, x.2.1 - x.1 / y.1 * y.2.1, x.2.2 - x.1 / y.1 * y.2.2)
termination_by y.1.natAbs
decreasing_by
  exact (ediv_natAbs_le x.1 y.1).2 h

theorem bez_zero {x y : Int × Int × Int} (h : y.1 = 0) : bez x y = x := by unfold bez; rw [dif_pos h]
theorem bez_step {x y : Int × Int × Int} (h : y.1 ≠ 0) : bez x y = bez y (x.1 % y.1, x.2.1 - x.1 / y.1 * y.2.1, x.2.2 - x.1 / y.1 * y.2.2) := by rw [bez, dif_neg h]

/-- What the two rows of Euclid's way are, at every pass. -/
structure BezI (A B : Int) (x y : Int × Int × Int) : Prop where
  px : 0 ≤ x.1
  py : 0 ≤ y.1
  gcd : Int.gcd x.1 y.1 = Int.gcd A B
  ex : x.1 = x.2.1 * A + x.2.2 * B
  ey : y.1 = y.2.1 * A + y.2.2 * B
  sg : ∃ e xs ys xt yt : Int, (e = 1 ∨ e = -1) ∧ 0 ≤ xs ∧ 0 ≤ ys ∧ 0 ≤ xt ∧ 0 ≤ yt ∧ x.2.1 = e * xs ∧ y.2.1 = -e * ys ∧ x.2.2 = -e * xt ∧ y.2.2 = e * yt ∧
    x.1 * ys + y.1 * xs = B ∧ x.1 * yt + y.1 * xt = A ∧ xs ≤ B + 1 ∧ ys ≤ B + 1 ∧ xt ≤ A + 1 ∧ yt ≤ A + 1
  lx : x.1 ≤ A + B
  ly : y.1 ≤ A + B

theorem bezI_first {A B : Int} (hA : 0 ≤ A) (hB : 0 ≤ B) : BezI A B (A, 1, 0) (B, 0, 1) where
  px := hA
  py := hB
  gcd := rfl
  ex := by simp
  ey := by simp
  sg := ⟨1, 1, 0, 0, 1, .inl rfl, by omega, by omega, by omega, by omega, by simp, by simp, by simp, by simp, by simp, by simp, by omega, by omega, by omega, by omega⟩
  lx := by simp only; omega
  ly := by simp only; omega

theorem mul_le_of {a b c : Int} (ha : 0 < a) (hb : 0 ≤ b) (h : a * b ≤ c) : b ≤ c :=
  Int.le_trans (by have := Int.mul_le_mul_of_nonneg_right (show 1 ≤ a by omega) hb; omega) h

theorem bezI_next {A B : Int} {x y : Int × Int × Int} (h : BezI A B x y) (h0 : y.1 ≠ 0) : BezI A B y (x.1 % y.1, x.2.1 - x.1 / y.1 * y.2.1, x.2.2 - x.1 / y.1 * y.2.2) := by
  obtain ⟨x1, x2, x3⟩ := x
  obtain ⟨y1, y2, y3⟩ := y
  obtain ⟨px, py, hg, ex, ey, ⟨e, xs, ys, xt, yt, he, p1, p2, p3, p4, e1, e2, e3, e4, f1, f2, l1, l2, l3, l4⟩, lx, ly⟩ := h
  simp only at *
  have hm := Int.emod_nonneg x1 h0
  have hl := Int.emod_lt_of_pos x1 (show 0 < y1 by omega)
  have hd := Int.mul_ediv_add_emod x1 y1
  have hq : 0 ≤ x1 / y1 := Int.ediv_nonneg px py
  obtain ⟨q, hqe⟩ : ∃ q, q = x1 / y1 := ⟨_, rfl⟩
  obtain ⟨r, hre⟩ : ∃ r, r = x1 % y1 := ⟨_, rfl⟩
  have hg2 : Int.gcd y1 r = Int.gcd A B := by
    rw [← hg, hre, Int.gcd_comm x1 y1, Int.gcd, Int.gcd, Int.natAbs_emod_of_nonneg px]
    exact (gcd_step rfl).trans (Nat.gcd_comm _ _)
  rw [← hqe] at hd hq ⊢
  rw [← hre] at hd hm hl ⊢
  clear hqe hre
  have w1 : 0 ≤ q * ys := Int.mul_nonneg hq p2
  have w2 : 0 ≤ q * yt := Int.mul_nonneg hq p4
  have k1 : y1 * (xs + q * ys) + r * ys = B := by rw [← f1, ← hd]; grind
  have k2 : y1 * (xt + q * yt) + r * yt = A := by rw [← f2, ← hd]; grind
  have n1 : 0 ≤ r * ys := Int.mul_nonneg hm p2
  have n2 : 0 ≤ r * yt := Int.mul_nonneg hm p4
  have m1 : xs + q * ys ≤ B := mul_le_of (a := y1) (by omega) (by omega) (by omega)
  have m2 : xt + q * yt ≤ A := mul_le_of (a := y1) (by omega) (by omega) (by omega)
  exact {
    px := py, py := hm, gcd := hg2, ex := ey
    ey := by simp only; grind
    sg := ⟨-e, ys, xs + q * ys, yt, xt + q * yt, by omega, p2, by omega, p4, by omega, by simp only; grind, by simp only; grind, by simp only; grind, by simp only; grind, k1, k2, l2, by omega, l4, by omega⟩
    lx := ly
    ly := by simp only; omega }

/-- What Euclid's way answers. -/
structure BezE (A B : Int) (x : Int × Int × Int) : Prop where
  g : x.1 = (Int.gcd A B : Int)
  e : x.1 = x.2.1 * A + x.2.2 * B
  s : x.2.1.natAbs ≤ (B + 1).natAbs
  t : x.2.2.natAbs ≤ (A + 1).natAbs

theorem bez_ends {A B : Int} : ∀ (n : Nat) (x y : Int × Int × Int), y.1.natAbs ≤ n → BezI A B x y → BezE A B (bez x y) := by
  intro n
  induction n with
  | zero =>
    intro x y hn h
    have h0 : y.1 = 0 := by omega
    rw [bez_zero h0]
    obtain ⟨e, xs, ys, xt, yt, he, p1, p2, p3, p4, e1, e2, e3, e4, f1, f2, l1, l2, l3, l4⟩ := h.sg
    refine ⟨?_, h.ex, ?_, ?_⟩
    · rw [← h.gcd, h0, Int.gcd_zero_right]; have := h.px; omega
    · rcases he with rfl | rfl <;> omega
    · rcases he with rfl | rfl <;> omega
  | succ n ih =>
    intro x y hn h
    by_cases h0 : y.1 = 0
    · exact ih x y (by omega) h
    · rw [bez_step h0]
      have h2 := (ediv_natAbs_le x.1 y.1).2 h0
      exact ih _ _ (by simp only; omega) (bezI_next h h0)

/-- The three numbers of Bezout, for any integers. -/
def bezG (a b : Int) : Int × Int × Int := bez ((a.natAbs : Int), 1, 0) ((b.natAbs : Int), 0, 1)
def bezS (a b : Int) : Int := if a < 0 then -(bezG a b).2.1 else (bezG a b).2.1
def bezT (a b : Int) : Int := if b < 0 then -(bezG a b).2.2 else (bezG a b).2.2
def bezR (a b : Int) : List RV := [.pure (Z (Int.gcd a b : Int)), .pure (Z (bezS a b)), .pure (Z (bezT a b))]

theorem bezG_ends (a b : Int) : BezE (a.natAbs : Int) (b.natAbs : Int) (bezG a b) := bez_ends _ _ _ (Nat.le_refl _) (bezI_first (by omega) (by omega))
theorem zlen_succ {a b : Int} {k : Nat} (h : a.natAbs ≤ b.natAbs + 1) (hb : zlen b ≤ k) : zlen a ≤ k + 1 := by
  have h1 := lt_zlen' hb
  apply zlen_lt
  rw [Nat.pow_succ]
  omega
theorem bezS_len {a b : Int} {k : Nat} (hb : zlen b ≤ k) : zlen (bezS a b) ≤ k + 1 := by
  have h := (bezG_ends a b).s
  refine zlen_succ (b := b) ?_ hb
  unfold bezS
  split <;> omega
attribute [local simp] RunL_cons RunL_nil AOp_none AOp_some acK_v acK_call agK_tt agK_ff agK_tf agK_ft agK_tup agK_i aop aun St.ev St.heap St.put thenQ blockQ scopeQ upd_apply S0 argSlot lowV V.cells V.isAgg V.fits V.part partOk plains St.ret retSV svOf svsOf retQ retP retAll retOne uL_length uL_get? uL_get St.elems retH ownIdx ownAt
attribute [local simp] RunD_none RunD_some RunD_nil RunE_any acD_v acD_call agD_tt agD_ff agD_tf agD_ft agD_tup entsOf svref SO.opds SO.writes SO.makes callEnt pureSV pureOf RV.isOwn
attribute [local simp] abin_add abin_sub abin_mul abin_quo abin_rem abin_eql abin_neq abin_lss abin_leq abin_gtr abin_geq
attribute [local simp] uL_snoc uL_set uL_take uL_drop uL_append uL_replicate uL_nil
attribute [local simp] acK_callG acD_callG St.giv gsSV gvSV retEnts ownEnts SO.still
attribute [local simp] S0G argSlotG givSV retQG retPG retAllG retOneG HObj.width V.scalar trimQ V.byte

end Go.Vw
set_option linter.unusedVariables false
set_option linter.unusedSimpArgs false
namespace Go.Vw
open Go.Proofs

/-- A row of Euclid's way, as a value. -/
def LN (x : Int × Int × Int) : V := .agg [.b (zn x.1), .sl none (uL (zl x.1)), .b (zn x.2.1), .sl none (uL (zl x.2.1)), .b (zn x.2.2), .sl none (uL (zl x.2.2))]
def LNc (x : Int × Int × Int) : List V := [.b (zn x.1), .sl none (uL (zl x.1)), .b (zn x.2.1), .sl none (uL (zl x.2.1)), .b (zn x.2.2), .sl none (uL (zl x.2.2))]

structure L3 (K : Nat) (x : Int × Int × Int) : Prop where
  g : zlen x.1 ≤ K
  s : zlen x.2.1 ≤ K
  t : zlen x.2.2 ≤ K

attribute [local simp] RunL_cons RunL_nil AOp_none AOp_some acK_v acK_call agK_tt agK_ff agK_tf agK_ft agK_tup agK_i aop aun St.ev St.heap St.put thenQ blockQ scopeQ upd_apply S0 argSlot lowV V.cells V.isAgg V.fits V.part partOk plains St.ret retSV svOf svsOf retQ retP retAll retOne uL_length uL_get? uL_get St.elems retH ownIdx ownAt
attribute [local simp] RunD_none RunD_some RunD_nil RunE_any acD_v acD_call agD_tt agD_ff agD_tf agD_ft agD_tup entsOf svref SO.opds SO.writes SO.makes callEnt pureSV pureOf RV.isOwn
attribute [local simp] abin_add abin_sub abin_mul abin_quo abin_rem abin_eql abin_neq abin_lss abin_leq abin_gtr abin_geq
attribute [local simp] uL_snoc uL_set uL_take uL_drop uL_append uL_replicate uL_nil
attribute [local simp] acK_callG acD_callG St.giv gsSV gvSV retEnts ownEnts SO.still
attribute [local simp] S0G argSlotG givSV retQG retPG retAllG retOneG HObj.width V.scalar trimQ V.byte
attribute [local simp] zv V.fits fillOk fillV Z_eq
theorem zline {K : Nat} {x m : Int × Int × Int} {q : Int} (hx : L3 K x) (hm : L3 K m) (hq : zlen q ≤ K) (hK : K ≤ 2 ^ 27) :
    Spec Tryz.prog f_zint_line_less [LN x, Z q, LN m] (· = [.pure (LN (x.1 - q * m.1, x.2.1 - q * m.2.1, x.2.2 - q * m.2.2))]) := by
  have ml : ∀ y : Int, zlen y ≤ K → zlen (q * y) ≤ 2 ^ 28 := fun y hy => by have := zlen_mul q y; omega
  have m1 := zmul (isZ_Z hq) (isZ_Z hm.g) (by omega)
  have m2 := zmul (isZ_Z hq) (isZ_Z hm.s) (by omega)
  have m3 := zmul (isZ_Z hq) (isZ_Z hm.t) (by omega)
  have s1 := zsub (isZ_Z (k := 2 ^ 28) (z := x.1) (by have := hx.g; omega)) (isZ_Z (ml _ hm.g)) (by omega)
  have s2 := zsub (isZ_Z (k := 2 ^ 28) (z := x.2.1) (by have := hx.s; omega)) (isZ_Z (ml _ hm.s)) (by omega)
  have s3 := zsub (isZ_Z (k := 2 ^ 28) (z := x.2.2) (by have := hx.t; omega)) (isZ_Z (ml _ hm.t)) (by omega)
  refine spec_at Tryz.func96 ok_zint_line_less [] rfl (by simp) ?_
  unfold sc_zint_line_less
  unfold LN
  refine WS_seq (WS_reg [] ?_); simp
  refine WS_seq (WS_regD [] ?_); simp
  refine callD m1 rfl ?_; simp
  refine callD s1 rfl ?_; simp
  refine callD m2 rfl ?_; simp
  refine callD s2 rfl ?_; simp
  refine callD m3 rfl ?_; simp
  refine callD s3 rfl ?_; simp
  refine ⟨rfl, ?_⟩
  refine WS_ret ?_; simp

def BezS (A B : Int) (F : Int × Int × Int) (a b : Bool × List Nat) (S : St) : Prop := ∃ x y : Int × Int × Int, S.σ 7 = .ptr 7 1 0 ∧ S.h 7 = ⟨1, some (.box 86 (LNc x))⟩ ∧ S.σ 8 = .ptr 8 1 0 ∧ S.h 8 = ⟨1, some (.box 86 (LNc y))⟩ ∧
  BezI A B x y ∧ bez x y = F ∧ S.σ 2 = .ptr 2 1 0 ∧ S.h 2 = ⟨1, some (.box 24 [.b a.1, .sl none (uL a.2)])⟩ ∧ S.σ 3 = .ptr 3 1 0 ∧ S.h 3 = ⟨1, some (.box 24 [.b b.1, .sl none (uL b.2)])⟩ ∧
  S.σ 4 = .ptr 4 1 0 ∧ S.h 4 = ⟨1, some (.box 24 [.b false, .sl none []])⟩ ∧ S.σ 5 = .ptr 5 1 0 ∧ S.h 5 = ⟨1, some (.box 24 [.b false, .sl none []])⟩ ∧ S.σ 6 = .ptr 6 1 0 ∧ S.h 6 = ⟨1, some (.box 24 [.b false, .sl none []])⟩

def lnM (i : Nat) (S : St) : Nat := match (S.h i).o with | some (.box _ [_, .sl _ xs, _, _, _, _]) => vM xs | _ => 0
theorem lnM_eq {i g t : Nat} {S : St} {x : Int × Int × Int} (h : S.h i = ⟨g, some (.box t (LNc x))⟩) : lnM i S = x.1.natAbs := by
  simp only [lnM, h, LNc, vM_eq, zl]
  exact Nm.val_dig (by omega) _

theorem bezI_len {A B : Int} {x y : Int × Int × Int} {K : Nat} (h : BezI A B x y) (hA : zlen A ≤ K) (hB : zlen B ≤ K) (pA : 0 ≤ A) (pB : 0 ≤ B) : L3 (K + 1) x ∧ L3 (K + 1) y := by
  obtain ⟨px, py, hg, ex, ey, ⟨e, xs, ys, xt, yt, he, p1, p2, p3, p4, e1, e2, e3, e4, f1, f2, l1, l2, l3, l4⟩, lx, ly⟩ := h
  have a := lt_zlen' hA
  have b := lt_zlen' hB
  have key : ∀ z : Int, z.natAbs ≤ A.natAbs + B.natAbs + 1 → zlen z ≤ K + 1 := fun z hz => by
    apply zlen_lt
    rw [Nat.pow_succ]
    omega
  refine ⟨⟨key _ (by omega), key _ ?_, key _ ?_⟩, ⟨key _ (by omega), key _ ?_, key _ ?_⟩⟩ <;> rcases he with rfl | rfl <;> omega

theorem zbezout {k : Nat} {v w : V} {x y : Int} (hv : IsZ k v x) (hw : IsZ k w y) (hk : k ≤ 2 ^ 26) : Spec Tryz.prog f_zint_Bezout [v, w] (· = bezR x y) := by
  have z1 := hv.zlen
  have z2 := hw.zlen
  obtain ⟨n1, l1, rfl, h1, rfl⟩ := hv
  obtain ⟨n2, l2, rfl, h2, rfl⟩ := hw
  have k1 := made_spec false l1 (h1.mono (by omega))
  have k2 := made_spec false l2 (h2.mono (by omega))
  have e1 : zi false l1 = ((zi n1 l1).natAbs : Int) := by rw [zi_abs]; simp [zi]
  have e2 : zi false l2 = ((zi n2 l2).natAbs : Int) := by rw [zi_abs]; simp [zi]
  rw [e1] at k1
  rw [e2] at k2
  have w1 : zlen ((zi n1 l1).natAbs : Int) ≤ k := Nat.le_trans (zlen_le (by simp)) z1
  have w2 : zlen ((zi n2 l2).natAbs : Int) ≤ k := Nat.le_trans (zlen_le (by simp)) z2
  have o1 := zof 1 (by omega) (by omega)
  have o0 := zof 0 (by omega) (by omega)
  have sa := zsign (isZ_zv (n := n1) h1) (by omega)
  have sb := zsign (isZ_zv (n := n2) h2) (by omega)
  have hR : bezR (zi n1 l1) (zi n2 l2) = [.pure (Z (bezG (zi n1 l1) (zi n2 l2)).1), .pure (Z (bezS (zi n1 l1) (zi n2 l2))), .pure (Z (bezT (zi n1 l1) (zi n2 l2)))] := by
    rw [bezR, (bezG_ends _ _).g]; simp [Int.gcd]
  rw [hR]
  have hS : bezS (zi n1 l1) (zi n2 l2) = if zi n1 l1 < 0 then -(bezG (zi n1 l1) (zi n2 l2)).2.1 else (bezG (zi n1 l1) (zi n2 l2)).2.1 := rfl
  have hT : bezT (zi n1 l1) (zi n2 l2) = if zi n2 l2 < 0 then -(bezG (zi n1 l1) (zi n2 l2)).2.2 else (bezG (zi n1 l1) (zi n2 l2)).2.2 := rfl
  have hG : bezG (zi n1 l1) (zi n2 l2) = bez (((zi n1 l1).natAbs : Int), 1, 0) (((zi n2 l2).natAbs : Int), 0, 1) := rfl
  rw [hS, hT]
  obtain ⟨F, hF⟩ : ∃ F, F = bezG (zi n1 l1) (zi n2 l2) := ⟨_, rfl⟩
  rw [← hF] at hG ⊢
  have pa : (0 : Int) ≤ ((zi n1 l1).natAbs : Int) := by omega
  have pb : (0 : Int) ≤ ((zi n2 l2).natAbs : Int) := by omega
  obtain ⟨A, hA⟩ : ∃ a : Int, a = ((zi n1 l1).natAbs : Int) := ⟨_, rfl⟩
  obtain ⟨B, hB⟩ : ∃ a : Int, a = ((zi n2 l2).natAbs : Int) := ⟨_, rfl⟩
  rw [← hA] at hG k1 w1 pa
  rw [← hB] at hG k2 w2 pb
  obtain ⟨a, ha⟩ : ∃ a, a = zi n1 l1 := ⟨_, rfl⟩
  obtain ⟨b, hb⟩ : ∃ a, a = zi n2 l2 := ⟨_, rfl⟩
  rw [← ha] at sa ⊢
  rw [← hb] at sb ⊢
  clear hR hS hT
  refine spec_at Tryz.func51 ok_zint_Bezout [] rfl (by simp) ?_
  unfold sc_zint_Bezout
  refine WS_seq (WS_reg [] ?_); simp
  refine WS_seq (WS_regD [] ?_); simp
  refine callD k1 rfl ?_; simp
  refine callD o1 rfl ?_; simp
  refine callD o0 rfl ?_; simp
  refine callD k2 rfl ?_; simp
  refine callD o0 rfl ?_; simp
  refine callD o1 rfl ?_; simp
  refine ⟨rfl, ?_⟩
  refine WS_seq (WS_block ?_)
  refine WS_loop (BezS A B F (n1, l1) (n2, l2)) (lnM 8) ⟨(A, 1, 0), (B, 0, 1), rfl, rfl, rfl, rfl, bezI_first pa pb, hG.symm, rfl, rfl, rfl, rfl, rfl, rfl, rfl, rfl, rfl, rfl⟩ ?_
  rintro S ⟨x, y, s7, h7, s8, h8, hI, hE, s2, h2', s3, h3, s4, h4, s5, h5, s6, h6⟩
  have dx := lnM_eq h8
  obtain ⟨lx, ly⟩ := bezI_len hI w1 w2 pa pb
  have sg := zsign (isZ_Z ly.g) (by omega)
  simp only [LNc] at h7 h8
  by_cases h0 : y.1 = 0
  · rw [bez_zero h0] at hE
    subst hE
    rw [h0] at sg
    have ns := zneg (isZ_Z lx.s) (by omega)
    have nt := zneg (isZ_Z lx.t) (by omega)
    by_cases ha0 : a < 0
    · rw [sign_lt ha0] at sa
      by_cases hb0 : b < 0
      · rw [sign_lt hb0] at sb
        refine WS_seq (WS_seq (WS_reg [] ?_)); simp [s7, h7, s8, h8, s2, h2', s3, h3, s4, h4, s5, h5, s6, h6, h0, ha0, hb0]
        refine callK sg ?_; simp [s7, h7, s8, h8, s2, h2', s3, h3, s4, h4, s5, h5, s6, h6, h0, ha0, hb0]
        refine WS_cond (t := false) (by simp [s7, h7, s8, h8, s2, h2', s3, h3, s4, h4, s5, h5, s6, h6, h0, ha0, hb0]) (fun h => by cases h) (fun _ => ?_)
        refine WS_exit ?_; simp [s7, h7, s8, h8, s2, h2', s3, h3, s4, h4, s5, h5, s6, h6, h0, ha0, hb0]
        refine WS_seq (WS_seq (WS_reg [] ?_)); simp [s7, h7, s8, h8, s2, h2', s3, h3, s4, h4, s5, h5, s6, h6, h0, ha0, hb0]
        refine callK sa ?_; simp [s7, h7, s8, h8, s2, h2', s3, h3, s4, h4, s5, h5, s6, h6, h0, ha0, hb0]
        refine WS_cond (t := true) (by simp [s7, h7, s8, h8, s2, h2', s3, h3, s4, h4, s5, h5, s6, h6, h0, ha0, hb0]) (fun _ => ?_) (fun h => by cases h)
        refine WS_reg [] ?_; simp [s7, h7, s8, h8, s2, h2', s3, h3, s4, h4, s5, h5, s6, h6, h0, ha0, hb0]
        refine callK ns ?_; simp [s7, h7, s8, h8, s2, h2', s3, h3, s4, h4, s5, h5, s6, h6, h0, ha0, hb0]
        refine WS_seq (WS_seq (WS_reg [] ?_)); simp [s7, h7, s8, h8, s2, h2', s3, h3, s4, h4, s5, h5, s6, h6, h0, ha0, hb0]
        refine callK sb ?_; simp [s7, h7, s8, h8, s2, h2', s3, h3, s4, h4, s5, h5, s6, h6, h0, ha0, hb0]
        refine WS_cond (t := true) (by simp [s7, h7, s8, h8, s2, h2', s3, h3, s4, h4, s5, h5, s6, h6, h0, ha0, hb0]) (fun _ => ?_) (fun h => by cases h)
        refine WS_reg [] ?_; simp [s7, h7, s8, h8, s2, h2', s3, h3, s4, h4, s5, h5, s6, h6, h0, ha0, hb0]
        refine callK nt ?_; simp [s7, h7, s8, h8, s2, h2', s3, h3, s4, h4, s5, h5, s6, h6, h0, ha0, hb0]
        refine WS_seq (WS_regD [] ?_); simp [s7, h7, s8, h8, s2, h2', s3, h3, s4, h4, s5, h5, s6, h6, h0, ha0, hb0]
        refine ⟨rfl, ?_⟩
        refine WS_ret ?_; simp [s7, h7, s8, h8, s2, h2', s3, h3, s4, h4, s5, h5, s6, h6, h0, ha0, hb0]
      · have hb1 : ¬ b.sign < 0 := by rw [Int.sign_neg_iff]; exact hb0
        refine WS_seq (WS_seq (WS_reg [] ?_)); simp [s7, h7, s8, h8, s2, h2', s3, h3, s4, h4, s5, h5, s6, h6, h0, ha0, hb0, hb1]
        refine callK sg ?_; simp [s7, h7, s8, h8, s2, h2', s3, h3, s4, h4, s5, h5, s6, h6, h0, ha0, hb0, hb1]
        refine WS_cond (t := false) (by simp [s7, h7, s8, h8, s2, h2', s3, h3, s4, h4, s5, h5, s6, h6, h0, ha0, hb0, hb1]) (fun h => by cases h) (fun _ => ?_)
        refine WS_exit ?_; simp [s7, h7, s8, h8, s2, h2', s3, h3, s4, h4, s5, h5, s6, h6, h0, ha0, hb0, hb1]
        refine WS_seq (WS_seq (WS_reg [] ?_)); simp [s7, h7, s8, h8, s2, h2', s3, h3, s4, h4, s5, h5, s6, h6, h0, ha0, hb0, hb1]
        refine callK sa ?_; simp [s7, h7, s8, h8, s2, h2', s3, h3, s4, h4, s5, h5, s6, h6, h0, ha0, hb0, hb1]
        refine WS_cond (t := true) (by simp [s7, h7, s8, h8, s2, h2', s3, h3, s4, h4, s5, h5, s6, h6, h0, ha0, hb0, hb1]) (fun _ => ?_) (fun h => by cases h)
        refine WS_reg [] ?_; simp [s7, h7, s8, h8, s2, h2', s3, h3, s4, h4, s5, h5, s6, h6, h0, ha0, hb0, hb1]
        refine callK ns ?_; simp [s7, h7, s8, h8, s2, h2', s3, h3, s4, h4, s5, h5, s6, h6, h0, ha0, hb0, hb1]
        refine WS_seq (WS_seq (WS_reg [] ?_)); simp [s7, h7, s8, h8, s2, h2', s3, h3, s4, h4, s5, h5, s6, h6, h0, ha0, hb0, hb1]
        refine callK sb ?_; simp [s7, h7, s8, h8, s2, h2', s3, h3, s4, h4, s5, h5, s6, h6, h0, ha0, hb0, hb1]
        refine WS_cond (t := false) (by simp [s7, h7, s8, h8, s2, h2', s3, h3, s4, h4, s5, h5, s6, h6, h0, ha0, hb0, hb1]) (fun h => by cases h) (fun _ => ?_)
        refine WS_skip ?_; simp [s7, h7, s8, h8, s2, h2', s3, h3, s4, h4, s5, h5, s6, h6, h0, ha0, hb0, hb1]
        refine WS_seq (WS_regD [] ?_); simp [s7, h7, s8, h8, s2, h2', s3, h3, s4, h4, s5, h5, s6, h6, h0, ha0, hb0, hb1]
        refine ⟨rfl, ?_⟩
        refine WS_ret ?_; simp [s7, h7, s8, h8, s2, h2', s3, h3, s4, h4, s5, h5, s6, h6, h0, ha0, hb0, hb1]
    · have ha1 : ¬ a.sign < 0 := by rw [Int.sign_neg_iff]; exact ha0
      by_cases hb0 : b < 0
      · rw [sign_lt hb0] at sb
        refine WS_seq (WS_seq (WS_reg [] ?_)); simp [s7, h7, s8, h8, s2, h2', s3, h3, s4, h4, s5, h5, s6, h6, h0, ha0, hb0, ha1]
        refine callK sg ?_; simp [s7, h7, s8, h8, s2, h2', s3, h3, s4, h4, s5, h5, s6, h6, h0, ha0, hb0, ha1]
        refine WS_cond (t := false) (by simp [s7, h7, s8, h8, s2, h2', s3, h3, s4, h4, s5, h5, s6, h6, h0, ha0, hb0, ha1]) (fun h => by cases h) (fun _ => ?_)
        refine WS_exit ?_; simp [s7, h7, s8, h8, s2, h2', s3, h3, s4, h4, s5, h5, s6, h6, h0, ha0, hb0, ha1]
        refine WS_seq (WS_seq (WS_reg [] ?_)); simp [s7, h7, s8, h8, s2, h2', s3, h3, s4, h4, s5, h5, s6, h6, h0, ha0, hb0, ha1]
        refine callK sa ?_; simp [s7, h7, s8, h8, s2, h2', s3, h3, s4, h4, s5, h5, s6, h6, h0, ha0, hb0, ha1]
        refine WS_cond (t := false) (by simp [s7, h7, s8, h8, s2, h2', s3, h3, s4, h4, s5, h5, s6, h6, h0, ha0, hb0, ha1]) (fun h => by cases h) (fun _ => ?_)
        refine WS_skip ?_; simp [s7, h7, s8, h8, s2, h2', s3, h3, s4, h4, s5, h5, s6, h6, h0, ha0, hb0, ha1]
        refine WS_seq (WS_seq (WS_reg [] ?_)); simp [s7, h7, s8, h8, s2, h2', s3, h3, s4, h4, s5, h5, s6, h6, h0, ha0, hb0, ha1]
        refine callK sb ?_; simp [s7, h7, s8, h8, s2, h2', s3, h3, s4, h4, s5, h5, s6, h6, h0, ha0, hb0, ha1]
        refine WS_cond (t := true) (by simp [s7, h7, s8, h8, s2, h2', s3, h3, s4, h4, s5, h5, s6, h6, h0, ha0, hb0, ha1]) (fun _ => ?_) (fun h => by cases h)
        refine WS_reg [] ?_; simp [s7, h7, s8, h8, s2, h2', s3, h3, s4, h4, s5, h5, s6, h6, h0, ha0, hb0, ha1]
        refine callK nt ?_; simp [s7, h7, s8, h8, s2, h2', s3, h3, s4, h4, s5, h5, s6, h6, h0, ha0, hb0, ha1]
        refine WS_seq (WS_regD [] ?_); simp [s7, h7, s8, h8, s2, h2', s3, h3, s4, h4, s5, h5, s6, h6, h0, ha0, hb0, ha1]
        refine ⟨rfl, ?_⟩
        refine WS_ret ?_; simp [s7, h7, s8, h8, s2, h2', s3, h3, s4, h4, s5, h5, s6, h6, h0, ha0, hb0, ha1]
      · have hb1 : ¬ b.sign < 0 := by rw [Int.sign_neg_iff]; exact hb0
        refine WS_seq (WS_seq (WS_reg [] ?_)); simp [s7, h7, s8, h8, s2, h2', s3, h3, s4, h4, s5, h5, s6, h6, h0, ha0, hb0, ha1, hb1]
        refine callK sg ?_; simp [s7, h7, s8, h8, s2, h2', s3, h3, s4, h4, s5, h5, s6, h6, h0, ha0, hb0, ha1, hb1]
        refine WS_cond (t := false) (by simp [s7, h7, s8, h8, s2, h2', s3, h3, s4, h4, s5, h5, s6, h6, h0, ha0, hb0, ha1, hb1]) (fun h => by cases h) (fun _ => ?_)
        refine WS_exit ?_; simp [s7, h7, s8, h8, s2, h2', s3, h3, s4, h4, s5, h5, s6, h6, h0, ha0, hb0, ha1, hb1]
        refine WS_seq (WS_seq (WS_reg [] ?_)); simp [s7, h7, s8, h8, s2, h2', s3, h3, s4, h4, s5, h5, s6, h6, h0, ha0, hb0, ha1, hb1]
        refine callK sa ?_; simp [s7, h7, s8, h8, s2, h2', s3, h3, s4, h4, s5, h5, s6, h6, h0, ha0, hb0, ha1, hb1]
        refine WS_cond (t := false) (by simp [s7, h7, s8, h8, s2, h2', s3, h3, s4, h4, s5, h5, s6, h6, h0, ha0, hb0, ha1, hb1]) (fun h => by cases h) (fun _ => ?_)
        refine WS_skip ?_; simp [s7, h7, s8, h8, s2, h2', s3, h3, s4, h4, s5, h5, s6, h6, h0, ha0, hb0, ha1, hb1]
        refine WS_seq (WS_seq (WS_reg [] ?_)); simp [s7, h7, s8, h8, s2, h2', s3, h3, s4, h4, s5, h5, s6, h6, h0, ha0, hb0, ha1, hb1]
        refine callK sb ?_; simp [s7, h7, s8, h8, s2, h2', s3, h3, s4, h4, s5, h5, s6, h6, h0, ha0, hb0, ha1, hb1]
        refine WS_cond (t := false) (by simp [s7, h7, s8, h8, s2, h2', s3, h3, s4, h4, s5, h5, s6, h6, h0, ha0, hb0, ha1, hb1]) (fun h => by cases h) (fun _ => ?_)
        refine WS_skip ?_; simp [s7, h7, s8, h8, s2, h2', s3, h3, s4, h4, s5, h5, s6, h6, h0, ha0, hb0, ha1, hb1]
        refine WS_seq (WS_regD [] ?_); simp [s7, h7, s8, h8, s2, h2', s3, h3, s4, h4, s5, h5, s6, h6, h0, ha0, hb0, ha1, hb1]
        refine ⟨rfl, ?_⟩
        refine WS_ret ?_; simp [s7, h7, s8, h8, s2, h2', s3, h3, s4, h4, s5, h5, s6, h6, h0, ha0, hb0, ha1, hb1]
  · have dv := zdiv (isZ_Z lx.g) (isZ_Z ly.g) (by omega) h0
    have sp : y.1.sign = 1 := Int.sign_eq_one_of_pos (by have := hI.py; omega)
    rw [sp] at sg
    have hq := Nat.le_trans (zlen_ediv x.1 y.1) lx.g
    have ls := zline lx ly hq (by omega)
    have em : x.1 - x.1 / y.1 * y.1 = x.1 % y.1 := by rw [Int.emod_def, Int.mul_comm]
    rw [em] at ls
    have nx := bezI_next hI h0
    rw [bez_step h0] at hE
    obtain ⟨z, hz⟩ : ∃ z, z = (x.1 % y.1, x.2.1 - x.1 / y.1 * y.2.1, x.2.2 - x.1 / y.1 * y.2.2) := ⟨_, rfl⟩
    have hr : z.1.natAbs < y.1.natAbs := by rw [hz]; exact (ediv_natAbs_le x.1 y.1).2 h0
    rw [← hz] at ls nx hE
    unfold LN at ls
    refine WS_seq (WS_seq (WS_reg [] ?_)); simp [s7, h7, s8, h8, s2, h2', s3, h3, s4, h4, s5, h5, s6, h6, h0]
    refine callK sg ?_; simp [s7, h7, s8, h8, s2, h2', s3, h3, s4, h4, s5, h5, s6, h6, h0]
    refine WS_cond (t := true) (by simp [s7, h7, s8, h8, s2, h2', s3, h3, s4, h4, s5, h5, s6, h6, h0]) (fun _ => ?_) (fun h => by cases h)
    refine WS_skip ?_; simp [s7, h7, s8, h8, s2, h2', s3, h3, s4, h4, s5, h5, s6, h6, h0]
    refine WS_block (WS_seq (WS_reg [] ?_)); simp [s7, h7, s8, h8, s2, h2', s3, h3, s4, h4, s5, h5, s6, h6, h0]
    refine callK dv ?_; simp [s7, h7, s8, h8, s2, h2', s3, h3, s4, h4, s5, h5, s6, h6, h0]
    refine WS_regD [] ?_; simp [s7, h7, s8, h8, s2, h2', s3, h3, s4, h4, s5, h5, s6, h6, h0]
    refine callD ls rfl ?_; simp [s7, h7, s8, h8, s2, h2', s3, h3, s4, h4, s5, h5, s6, h6, h0]
    refine ⟨rfl, ?_⟩
    refine ⟨⟨y, z, by simp [s7], by simp [LNc], by simp [s8], by simp [LNc], nx, hE, by simp [s2], by simp [h2'], by simp [s3], by simp [h3], by simp [s4], by simp [h4], by simp [s5], by simp [h5], by simp [s6], by simp [h6]⟩, ?_⟩
    rw [dx, lnM_eq (g := 1) (t := 86) (x := z) (by simp [LNc])]
    exact hr

end Go.Vw
set_option linter.unusedVariables false
set_option linter.unusedSimpArgs false
namespace Go.Vw
open Go.Proofs

def T3z (x : Int × Int × Int) : List V := [.agg [.b (zn x.1), .sl none (uL (zl x.1))], .agg [.b (zn x.2.1), .sl none (uL (zl x.2.1))], .agg [.b (zn x.2.2), .sl none (uL (zl x.2.2))]]

def BzO (a b : Bool × List Nat) (x y : Int × Int × Int) (S : St) : Prop := S.σ 7 = .p (.sl (some 2) (T3z x)) ∧ S.σ 8 = .p (.sl (some 2) (T3z y)) ∧
  S.σ 2 = .ptr 2 1 0 ∧ S.h 2 = ⟨1, some (.box 24 [.b a.1, .sl none (uL a.2)])⟩ ∧ S.σ 3 = .ptr 3 1 0 ∧ S.h 3 = ⟨1, some (.box 24 [.b b.1, .sl none (uL b.2)])⟩ ∧
  S.σ 4 = .ptr 4 1 0 ∧ S.h 4 = ⟨1, some (.box 24 [.b false, .sl none []])⟩ ∧ S.σ 5 = .ptr 5 1 0 ∧ S.h 5 = ⟨1, some (.box 24 [.b false, .sl none []])⟩ ∧ S.σ 6 = .ptr 6 1 0 ∧ S.h 6 = ⟨1, some (.box 24 [.b false, .sl none []])⟩
def BzS (A B : Int) (F : Int × Int × Int) (a b : Bool × List Nat) (S : St) : Prop := ∃ x y : Int × Int × Int, BezI A B x y ∧ bez x y = F ∧ BzO a b x y S
def BzJ (a b : Bool × List Nat) (x y z : Int × Int × Int) (q : Int) (S : St) : Prop := ∃ j g p : Nat, j ≤ 3 ∧ S.σ 13 = .p (.i .i64 (j : Int)) ∧ S.σ 12 = .own 12 g 0 j ∧ S.h 12 = ⟨g, some (.arr 24 (some 2) ((T3z z).take j))⟩ ∧
  S.σ 9 = .ptr 9 p 0 ∧ S.h 9 = ⟨p, some (.box 24 [.b (zn q), .sl none (uL (zl q))])⟩ ∧ BzO a b x y S

def t3M (i : Nat) (S : St) : Nat := match S.σ i with | .p (.sl _ [.agg [_, .sl _ xs], _, _]) => vM xs | _ => 0
theorem t3M_eq {i : Nat} {S : St} {x : Int × Int × Int} (h : S.σ i = .p (.sl (some 2) (T3z x))) : t3M i S = x.1.natAbs := by
  simp only [t3M, h, T3z, vM_eq, zl]
  exact Nm.val_dig (by omega) _
def jM (i : Nat) (S : St) : Nat := match S.σ i with | .p (.i _ n) => (3 - n).toNat | _ => 0
theorem jM_eq {i : Nat} {S : St} {n : Int} (h : S.σ i = .p (.i .i64 n)) : jM i S = (3 - n).toNat := by simp only [jM, h]

attribute [local simp] RunL_cons RunL_nil AOp_none AOp_some acK_v acK_call agK_tt agK_ff agK_tf agK_ft agK_tup agK_i aop aun St.ev St.heap St.put thenQ blockQ scopeQ upd_apply S0 argSlot lowV V.cells V.isAgg V.fits V.part partOk plains St.ret retSV svOf svsOf retQ retP retAll retOne uL_length uL_get? uL_get St.elems retH ownIdx ownAt
attribute [local simp] RunD_none RunD_some RunD_nil RunE_any acD_v acD_call agD_tt agD_ff agD_tf agD_ft agD_tup entsOf svref SO.opds SO.writes SO.makes callEnt pureSV pureOf RV.isOwn
attribute [local simp] abin_add abin_sub abin_mul abin_quo abin_rem abin_eql abin_neq abin_lss abin_leq abin_gtr abin_geq
attribute [local simp] uL_snoc uL_set uL_take uL_drop uL_append uL_replicate uL_nil
attribute [local simp] acK_callG acD_callG St.giv gsSV gvSV retEnts ownEnts SO.still
attribute [local simp] S0G argSlotG givSV retQG retPG retAllG retOneG HObj.width V.scalar trimQ V.byte
attribute [local simp] zv V.fits fillOk fillV Z_eq
theorem rbezout {k : Nat} {v w : V} {x y : Int} (hv : IsZ k v x) (hw : IsZ k w y) (hk : k ≤ 2 ^ 26) : Spec Tryz.prog f_ref02_Bezout [v, w] (· = bezR x y) := by
  have z1 := hv.zlen
  have z2 := hw.zlen
  have k1 := rabs hv (by omega)
  have k2 := rabs hw (by omega)
  have sa := rsign hv (by omega)
  have sb := rsign hw (by omega)
  obtain ⟨n1, l1, rfl, h1, rfl⟩ := hv
  obtain ⟨n2, l2, rfl, h2, rfl⟩ := hw
  have w1 : zlen ((zi n1 l1).natAbs : Int) ≤ k := Nat.le_trans (zlen_le (by simp)) z1
  have w2 : zlen ((zi n2 l2).natAbs : Int) ≤ k := Nat.le_trans (zlen_le (by simp)) z2
  have o1 := rof 1 (by omega) (by omega)
  have o0 := rof 0 (by omega) (by omega)
  have hR : bezR (zi n1 l1) (zi n2 l2) = [.pure (Z (bezG (zi n1 l1) (zi n2 l2)).1), .pure (Z (bezS (zi n1 l1) (zi n2 l2))), .pure (Z (bezT (zi n1 l1) (zi n2 l2)))] := by
    rw [bezR, (bezG_ends _ _).g]; simp [Int.gcd]
  rw [hR]
  have hS : bezS (zi n1 l1) (zi n2 l2) = if zi n1 l1 < 0 then -(bezG (zi n1 l1) (zi n2 l2)).2.1 else (bezG (zi n1 l1) (zi n2 l2)).2.1 := rfl
  have hT : bezT (zi n1 l1) (zi n2 l2) = if zi n2 l2 < 0 then -(bezG (zi n1 l1) (zi n2 l2)).2.2 else (bezG (zi n1 l1) (zi n2 l2)).2.2 := rfl
  have hG : bezG (zi n1 l1) (zi n2 l2) = bez (((zi n1 l1).natAbs : Int), 1, 0) (((zi n2 l2).natAbs : Int), 0, 1) := rfl
  rw [hS, hT]
  obtain ⟨F, hF⟩ : ∃ F, F = bezG (zi n1 l1) (zi n2 l2) := ⟨_, rfl⟩
  rw [← hF] at hG ⊢
  have pa : (0 : Int) ≤ ((zi n1 l1).natAbs : Int) := by omega
  have pb : (0 : Int) ≤ ((zi n2 l2).natAbs : Int) := by omega
  obtain ⟨A, hA⟩ : ∃ a : Int, a = ((zi n1 l1).natAbs : Int) := ⟨_, rfl⟩
  obtain ⟨B, hB⟩ : ∃ a : Int, a = ((zi n2 l2).natAbs : Int) := ⟨_, rfl⟩
  rw [← hA] at hG k1 w1 pa
  rw [← hB] at hG k2 w2 pb
  obtain ⟨a, ha⟩ : ∃ a, a = zi n1 l1 := ⟨_, rfl⟩
  obtain ⟨b, hb⟩ : ∃ a, a = zi n2 l2 := ⟨_, rfl⟩
  rw [← ha] at sa ⊢
  rw [← hb] at sb ⊢
  clear hR hS hT
  refine spec_at Tryz.func57 ok_ref02_Bezout [] rfl (by simp) ?_
  unfold sc_ref02_Bezout
  refine WS_seq (WS_reg [] ?_); simp
  refine WS_seq (WS_reg [] ?_); simp
  refine callK k1 ?_; simp
  refine callK o1 ?_; simp
  refine callK o0 ?_; simp
  refine WS_seq (WS_reg [] ?_); simp
  refine callK k2 ?_; simp
  refine callK o0 ?_; simp
  refine callK o1 ?_; simp
  refine WS_seq (WS_block ?_)
  refine WS_loop (BzS A B F (n1, l1) (n2, l2)) (t3M 8) ⟨(A, 1, 0), (B, 0, 1), bezI_first pa pb, hG.symm, rfl, rfl, rfl, rfl, rfl, rfl, rfl, rfl, rfl, rfl, rfl, rfl⟩ ?_
  rintro S ⟨x, y, hI, hE, s7, s8, s2, h2', s3, h3, s4, h4, s5, h5, s6, h6⟩
  have dx := t3M_eq s8
  obtain ⟨lx, ly⟩ := bezI_len hI w1 w2 pa pb
  have sg := rsign (isZ_Z ly.g) (by omega)
  simp only [T3z] at s7 s8
  by_cases h0 : y.1 = 0
  · rw [bez_zero h0] at hE
    subst hE
    rw [h0] at sg
    have ns := rneg (isZ_Z lx.s) (by omega)
    have nt := rneg (isZ_Z lx.t) (by omega)
    by_cases ha0 : a < 0
    · rw [sign_lt ha0] at sa
      by_cases hb0 : b < 0
      · rw [sign_lt hb0] at sb
        refine WS_seq (WS_seq (WS_reg [] ?_)); simp [s7, s8, s2, h2', s3, h3, s4, h4, s5, h5, s6, h6, h0, ha0, hb0]
        refine callK sg ?_; simp [s7, s8, s2, h2', s3, h3, s4, h4, s5, h5, s6, h6, h0, ha0, hb0]
        refine WS_cond (t := false) (by simp [s7, s8, s2, h2', s3, h3, s4, h4, s5, h5, s6, h6, h0, ha0, hb0]) (fun h => by cases h) (fun _ => ?_)
        refine WS_exit ?_; simp [s7, s8, s2, h2', s3, h3, s4, h4, s5, h5, s6, h6, h0, ha0, hb0]
        refine WS_seq (WS_reg [] ?_); simp [s7, s8, s2, h2', s3, h3, s4, h4, s5, h5, s6, h6, h0, ha0, hb0]
        refine WS_seq (WS_reg [] ?_); simp [s7, s8, s2, h2', s3, h3, s4, h4, s5, h5, s6, h6, h0, ha0, hb0]
        refine WS_seq (WS_seq (WS_reg [] ?_)); simp [s7, s8, s2, h2', s3, h3, s4, h4, s5, h5, s6, h6, h0, ha0, hb0]
        refine callK sa ?_; simp [s7, s8, s2, h2', s3, h3, s4, h4, s5, h5, s6, h6, h0, ha0, hb0]
        refine WS_cond (t := true) (by simp [s7, s8, s2, h2', s3, h3, s4, h4, s5, h5, s6, h6, h0, ha0, hb0]) (fun _ => ?_) (fun h => by cases h)
        refine WS_reg [] ?_; simp [s7, s8, s2, h2', s3, h3, s4, h4, s5, h5, s6, h6, h0, ha0, hb0]
        refine callK ns ?_; simp [s7, s8, s2, h2', s3, h3, s4, h4, s5, h5, s6, h6, h0, ha0, hb0]
        refine WS_seq (WS_seq (WS_reg [] ?_)); simp [s7, s8, s2, h2', s3, h3, s4, h4, s5, h5, s6, h6, h0, ha0, hb0]
        refine callK sb ?_; simp [s7, s8, s2, h2', s3, h3, s4, h4, s5, h5, s6, h6, h0, ha0, hb0]
        refine WS_cond (t := true) (by simp [s7, s8, s2, h2', s3, h3, s4, h4, s5, h5, s6, h6, h0, ha0, hb0]) (fun _ => ?_) (fun h => by cases h)
        refine WS_reg [] ?_; simp [s7, s8, s2, h2', s3, h3, s4, h4, s5, h5, s6, h6, h0, ha0, hb0]
        refine callK nt ?_; simp [s7, s8, s2, h2', s3, h3, s4, h4, s5, h5, s6, h6, h0, ha0, hb0]
        refine WS_seq (WS_regD [] ?_); simp [s7, s8, s2, h2', s3, h3, s4, h4, s5, h5, s6, h6, h0, ha0, hb0]
        refine ⟨rfl, ?_⟩
        refine WS_ret ?_; simp [s7, s8, s2, h2', s3, h3, s4, h4, s5, h5, s6, h6, h0, ha0, hb0]
      · have hb1 : ¬ b.sign < 0 := by rw [Int.sign_neg_iff]; exact hb0
        refine WS_seq (WS_seq (WS_reg [] ?_)); simp [s7, s8, s2, h2', s3, h3, s4, h4, s5, h5, s6, h6, h0, ha0, hb0, hb1]
        refine callK sg ?_; simp [s7, s8, s2, h2', s3, h3, s4, h4, s5, h5, s6, h6, h0, ha0, hb0, hb1]
        refine WS_cond (t := false) (by simp [s7, s8, s2, h2', s3, h3, s4, h4, s5, h5, s6, h6, h0, ha0, hb0, hb1]) (fun h => by cases h) (fun _ => ?_)
        refine WS_exit ?_; simp [s7, s8, s2, h2', s3, h3, s4, h4, s5, h5, s6, h6, h0, ha0, hb0, hb1]
        refine WS_seq (WS_reg [] ?_); simp [s7, s8, s2, h2', s3, h3, s4, h4, s5, h5, s6, h6, h0, ha0, hb0, hb1]
        refine WS_seq (WS_reg [] ?_); simp [s7, s8, s2, h2', s3, h3, s4, h4, s5, h5, s6, h6, h0, ha0, hb0, hb1]
        refine WS_seq (WS_seq (WS_reg [] ?_)); simp [s7, s8, s2, h2', s3, h3, s4, h4, s5, h5, s6, h6, h0, ha0, hb0, hb1]
        refine callK sa ?_; simp [s7, s8, s2, h2', s3, h3, s4, h4, s5, h5, s6, h6, h0, ha0, hb0, hb1]
        refine WS_cond (t := true) (by simp [s7, s8, s2, h2', s3, h3, s4, h4, s5, h5, s6, h6, h0, ha0, hb0, hb1]) (fun _ => ?_) (fun h => by cases h)
        refine WS_reg [] ?_; simp [s7, s8, s2, h2', s3, h3, s4, h4, s5, h5, s6, h6, h0, ha0, hb0, hb1]
        refine callK ns ?_; simp [s7, s8, s2, h2', s3, h3, s4, h4, s5, h5, s6, h6, h0, ha0, hb0, hb1]
        refine WS_seq (WS_seq (WS_reg [] ?_)); simp [s7, s8, s2, h2', s3, h3, s4, h4, s5, h5, s6, h6, h0, ha0, hb0, hb1]
        refine callK sb ?_; simp [s7, s8, s2, h2', s3, h3, s4, h4, s5, h5, s6, h6, h0, ha0, hb0, hb1]
        refine WS_cond (t := false) (by simp [s7, s8, s2, h2', s3, h3, s4, h4, s5, h5, s6, h6, h0, ha0, hb0, hb1]) (fun h => by cases h) (fun _ => ?_)
        refine WS_skip ?_; simp [s7, s8, s2, h2', s3, h3, s4, h4, s5, h5, s6, h6, h0, ha0, hb0, hb1]
        refine WS_seq (WS_regD [] ?_); simp [s7, s8, s2, h2', s3, h3, s4, h4, s5, h5, s6, h6, h0, ha0, hb0, hb1]
        refine ⟨rfl, ?_⟩
        refine WS_ret ?_; simp [s7, s8, s2, h2', s3, h3, s4, h4, s5, h5, s6, h6, h0, ha0, hb0, hb1]
    · have ha1 : ¬ a.sign < 0 := by rw [Int.sign_neg_iff]; exact ha0
      by_cases hb0 : b < 0
      · rw [sign_lt hb0] at sb
        refine WS_seq (WS_seq (WS_reg [] ?_)); simp [s7, s8, s2, h2', s3, h3, s4, h4, s5, h5, s6, h6, h0, ha0, hb0, ha1]
        refine callK sg ?_; simp [s7, s8, s2, h2', s3, h3, s4, h4, s5, h5, s6, h6, h0, ha0, hb0, ha1]
        refine WS_cond (t := false) (by simp [s7, s8, s2, h2', s3, h3, s4, h4, s5, h5, s6, h6, h0, ha0, hb0, ha1]) (fun h => by cases h) (fun _ => ?_)
        refine WS_exit ?_; simp [s7, s8, s2, h2', s3, h3, s4, h4, s5, h5, s6, h6, h0, ha0, hb0, ha1]
        refine WS_seq (WS_reg [] ?_); simp [s7, s8, s2, h2', s3, h3, s4, h4, s5, h5, s6, h6, h0, ha0, hb0, ha1]
        refine WS_seq (WS_reg [] ?_); simp [s7, s8, s2, h2', s3, h3, s4, h4, s5, h5, s6, h6, h0, ha0, hb0, ha1]
        refine WS_seq (WS_seq (WS_reg [] ?_)); simp [s7, s8, s2, h2', s3, h3, s4, h4, s5, h5, s6, h6, h0, ha0, hb0, ha1]
        refine callK sa ?_; simp [s7, s8, s2, h2', s3, h3, s4, h4, s5, h5, s6, h6, h0, ha0, hb0, ha1]
        refine WS_cond (t := false) (by simp [s7, s8, s2, h2', s3, h3, s4, h4, s5, h5, s6, h6, h0, ha0, hb0, ha1]) (fun h => by cases h) (fun _ => ?_)
        refine WS_skip ?_; simp [s7, s8, s2, h2', s3, h3, s4, h4, s5, h5, s6, h6, h0, ha0, hb0, ha1]
        refine WS_seq (WS_seq (WS_reg [] ?_)); simp [s7, s8, s2, h2', s3, h3, s4, h4, s5, h5, s6, h6, h0, ha0, hb0, ha1]
        refine callK sb ?_; simp [s7, s8, s2, h2', s3, h3, s4, h4, s5, h5, s6, h6, h0, ha0, hb0, ha1]
        refine WS_cond (t := true) (by simp [s7, s8, s2, h2', s3, h3, s4, h4, s5, h5, s6, h6, h0, ha0, hb0, ha1]) (fun _ => ?_) (fun h => by cases h)
        refine WS_reg [] ?_; simp [s7, s8, s2, h2', s3, h3, s4, h4, s5, h5, s6, h6, h0, ha0, hb0, ha1]
        refine callK nt ?_; simp [s7, s8, s2, h2', s3, h3, s4, h4, s5, h5, s6, h6, h0, ha0, hb0, ha1]
        refine WS_seq (WS_regD [] ?_); simp [s7, s8, s2, h2', s3, h3, s4, h4, s5, h5, s6, h6, h0, ha0, hb0, ha1]
        refine ⟨rfl, ?_⟩
        refine WS_ret ?_; simp [s7, s8, s2, h2', s3, h3, s4, h4, s5, h5, s6, h6, h0, ha0, hb0, ha1]
      · have hb1 : ¬ b.sign < 0 := by rw [Int.sign_neg_iff]; exact hb0
        refine WS_seq (WS_seq (WS_reg [] ?_)); simp [s7, s8, s2, h2', s3, h3, s4, h4, s5, h5, s6, h6, h0, ha0, hb0, ha1, hb1]
        refine callK sg ?_; simp [s7, s8, s2, h2', s3, h3, s4, h4, s5, h5, s6, h6, h0, ha0, hb0, ha1, hb1]
        refine WS_cond (t := false) (by simp [s7, s8, s2, h2', s3, h3, s4, h4, s5, h5, s6, h6, h0, ha0, hb0, ha1, hb1]) (fun h => by cases h) (fun _ => ?_)
        refine WS_exit ?_; simp [s7, s8, s2, h2', s3, h3, s4, h4, s5, h5, s6, h6, h0, ha0, hb0, ha1, hb1]
        refine WS_seq (WS_reg [] ?_); simp [s7, s8, s2, h2', s3, h3, s4, h4, s5, h5, s6, h6, h0, ha0, hb0, ha1, hb1]
        refine WS_seq (WS_reg [] ?_); simp [s7, s8, s2, h2', s3, h3, s4, h4, s5, h5, s6, h6, h0, ha0, hb0, ha1, hb1]
        refine WS_seq (WS_seq (WS_reg [] ?_)); simp [s7, s8, s2, h2', s3, h3, s4, h4, s5, h5, s6, h6, h0, ha0, hb0, ha1, hb1]
        refine callK sa ?_; simp [s7, s8, s2, h2', s3, h3, s4, h4, s5, h5, s6, h6, h0, ha0, hb0, ha1, hb1]
        refine WS_cond (t := false) (by simp [s7, s8, s2, h2', s3, h3, s4, h4, s5, h5, s6, h6, h0, ha0, hb0, ha1, hb1]) (fun h => by cases h) (fun _ => ?_)
        refine WS_skip ?_; simp [s7, s8, s2, h2', s3, h3, s4, h4, s5, h5, s6, h6, h0, ha0, hb0, ha1, hb1]
        refine WS_seq (WS_seq (WS_reg [] ?_)); simp [s7, s8, s2, h2', s3, h3, s4, h4, s5, h5, s6, h6, h0, ha0, hb0, ha1, hb1]
        refine callK sb ?_; simp [s7, s8, s2, h2', s3, h3, s4, h4, s5, h5, s6, h6, h0, ha0, hb0, ha1, hb1]
        refine WS_cond (t := false) (by simp [s7, s8, s2, h2', s3, h3, s4, h4, s5, h5, s6, h6, h0, ha0, hb0, ha1, hb1]) (fun h => by cases h) (fun _ => ?_)
        refine WS_skip ?_; simp [s7, s8, s2, h2', s3, h3, s4, h4, s5, h5, s6, h6, h0, ha0, hb0, ha1, hb1]
        refine WS_seq (WS_regD [] ?_); simp [s7, s8, s2, h2', s3, h3, s4, h4, s5, h5, s6, h6, h0, ha0, hb0, ha1, hb1]
        refine ⟨rfl, ?_⟩
        refine WS_ret ?_; simp [s7, s8, s2, h2', s3, h3, s4, h4, s5, h5, s6, h6, h0, ha0, hb0, ha1, hb1]
  · have dv := rdivz (isZ_Z lx.g) (isZ_Z ly.g) (by omega) h0
    have sp : y.1.sign = 1 := Int.sign_eq_one_of_pos (by have := hI.py; omega)
    rw [sp] at sg
    have hq := Nat.le_trans (zlen_ediv x.1 y.1) lx.g
    have em : x.1 - x.1 / y.1 * y.1 = x.1 % y.1 := by rw [Int.emod_def, Int.mul_comm]
    have ml : ∀ u : Int, zlen u ≤ k + 1 → zlen (x.1 / y.1 * u) ≤ 2 ^ 28 := fun u hu => by have := zlen_mul (x.1 / y.1) u; omega
    have m1 := rmul (isZ_Z hq) (isZ_Z ly.g) (by omega)
    have m2 := rmul (isZ_Z hq) (isZ_Z ly.s) (by omega)
    have m3 := rmul (isZ_Z hq) (isZ_Z ly.t) (by omega)
    have c1 := rsub (isZ_Z (k := 2 ^ 28) (z := x.1) (by have := lx.g; omega)) (isZ_Z (ml _ ly.g)) (by omega)
    have c2 := rsub (isZ_Z (k := 2 ^ 28) (z := x.2.1) (by have := lx.s; omega)) (isZ_Z (ml _ ly.s)) (by omega)
    have c3 := rsub (isZ_Z (k := 2 ^ 28) (z := x.2.2) (by have := lx.t; omega)) (isZ_Z (ml _ ly.t)) (by omega)
    rw [em] at c1
    have nx := bezI_next hI h0
    rw [bez_step h0] at hE
    obtain ⟨z, hz⟩ : ∃ z, z = (x.1 % y.1, x.2.1 - x.1 / y.1 * y.2.1, x.2.2 - x.1 / y.1 * y.2.2) := ⟨_, rfl⟩
    have hr : z.1.natAbs < y.1.natAbs := by rw [hz]; exact (ediv_natAbs_le x.1 y.1).2 h0
    have q1 : x.1 % y.1 = z.1 := by rw [hz]
    have q2 : x.2.1 - x.1 / y.1 * y.2.1 = z.2.1 := by rw [hz]
    have q3 : x.2.2 - x.1 / y.1 * y.2.2 = z.2.2 := by rw [hz]
    rw [q1] at c1 dv
    rw [q2] at c2
    rw [q3] at c3
    rw [← hz] at nx hE
    clear hz q1 q2 q3
    obtain ⟨q, hqe⟩ : ∃ q, q = x.1 / y.1 := ⟨_, rfl⟩
    rw [← hqe] at dv m1 m2 m3 c1 c2 c3 hq
    refine WS_seq (WS_seq (WS_reg [] ?_)); simp [s7, s8, s2, h2', s3, h3, s4, h4, s5, h5, s6, h6, h0]
    refine callK sg ?_; simp [s7, s8, s2, h2', s3, h3, s4, h4, s5, h5, s6, h6, h0]
    refine WS_cond (t := true) (by simp [s7, s8, s2, h2', s3, h3, s4, h4, s5, h5, s6, h6, h0]) (fun _ => ?_) (fun h => by cases h)
    refine WS_skip ?_; simp [s7, s8, s2, h2', s3, h3, s4, h4, s5, h5, s6, h6, h0]
    refine WS_block (WS_seq (WS_regD [] ?_)); simp [s7, s8, s2, h2', s3, h3, s4, h4, s5, h5, s6, h6, h0]
    refine callD dv rfl ?_; simp [s7, s8, s2, h2', s3, h3, s4, h4, s5, h5, s6, h6, h0]
    refine ⟨rfl, ?_⟩
    refine WS_seq (WS_reg [12] ?_); simp [s7, s8, s2, h2', s3, h3, s4, h4, s5, h5, s6, h6, h0]
    refine WS_seq (WS_seq (WS_reg [] ?_)); simp [s7, s8, s2, h2', s3, h3, s4, h4, s5, h5, s6, h6, h0]
    refine WS_block ?_
    refine WS_loop (BzJ (n1, l1) (n2, l2) x y z q) (jM 13) ⟨0, _, _, by omega, rfl, rfl, rfl, rfl, rfl, by simp [BzO, T3z, s7, s8, s2, h2', s3, h3, s4, h4, s5, h5, s6, h6]⟩ ?_
    clear s7 s8 s2 h2' s3 h3 s4 h4 s5 h5 s6 h6
    rintro S' ⟨j, g, p, hj, s13, s12, h12, s9, h9, s7, s8, s2, h2', s3, h3, s4, h4, s5, h5, s6, h6⟩
    have dj := jM_eq s13
    simp only [T3z] at s7 s8 h12
    have jw1 : IntKind.i64.wrap 1 = 1 := by rw [IntKind.wrap_i64]; decide
    have jw2 : IntKind.i64.wrap 2 = 2 := by rw [IntKind.wrap_i64]; decide
    have jw3 : IntKind.i64.wrap 3 = 3 := by rw [IntKind.wrap_i64]; decide
    have hj : j = 0 ∨ j = 1 ∨ j = 2 ∨ j = 3 := by omega
    rcases hj with rfl | rfl | rfl | rfl
    · refine WS_seq (WS_seq (WS_reg [] ?_)); simp [s7, s8, s9, h9, s12, h12, s13]
      refine WS_cond (t := true) (by simp [s7, s8, s9, h9, s12, h12, s13]) (fun _ => ?_) (fun h => by cases h)
      refine WS_skip ?_; simp [s7, s8, s9, h9, s12, h12, s13]
      refine WS_seq (WS_block (WS_regD [] ?_)); simp [s7, s8, s9, h9, s12, h12, s13]
      refine callD m1 rfl ?_; simp [s7, s8, s9, h9, s12, h12, s13]
      refine callD c1 rfl ?_; simp [s7, s8, s9, h9, s12, h12, s13]
      refine ⟨rfl, ?_⟩
      refine WS_reg [] ?_; simp [s7, s8, s9, h9, s12, h12, s13]
      refine ⟨⟨1, g + 1, p, by omega, by simp [jw1], by simp, by simp [T3z], by simp [s9], by simp [h9], by simp [BzO, T3z, s7, s8, s2, h2', s3, h3, s4, h4, s5, h5, s6, h6]⟩, ?_⟩
      rw [dj, jM_eq (n := 1) (by simp [jw1])]; decide
    · refine WS_seq (WS_seq (WS_reg [] ?_)); simp [s7, s8, s9, h9, s12, h12, s13]
      refine WS_cond (t := true) (by simp [s7, s8, s9, h9, s12, h12, s13]) (fun _ => ?_) (fun h => by cases h)
      refine WS_skip ?_; simp [s7, s8, s9, h9, s12, h12, s13]
      refine WS_seq (WS_block (WS_regD [] ?_)); simp [s7, s8, s9, h9, s12, h12, s13]
      refine callD m2 rfl ?_; simp [s7, s8, s9, h9, s12, h12, s13]
      refine callD c2 rfl ?_; simp [s7, s8, s9, h9, s12, h12, s13]
      refine ⟨rfl, ?_⟩
      refine WS_reg [] ?_; simp [s7, s8, s9, h9, s12, h12, s13]
      refine ⟨⟨2, g + 1, p, by omega, by simp [jw2], by simp, by simp [T3z], by simp [s9], by simp [h9], by simp [BzO, T3z, s7, s8, s2, h2', s3, h3, s4, h4, s5, h5, s6, h6]⟩, ?_⟩
      rw [dj, jM_eq (n := 2) (by simp [jw2])]; decide
    · refine WS_seq (WS_seq (WS_reg [] ?_)); simp [s7, s8, s9, h9, s12, h12, s13]
      refine WS_cond (t := true) (by simp [s7, s8, s9, h9, s12, h12, s13]) (fun _ => ?_) (fun h => by cases h)
      refine WS_skip ?_; simp [s7, s8, s9, h9, s12, h12, s13]
      refine WS_seq (WS_block (WS_regD [] ?_)); simp [s7, s8, s9, h9, s12, h12, s13]
      refine callD m3 rfl ?_; simp [s7, s8, s9, h9, s12, h12, s13]
      refine callD c3 rfl ?_; simp [s7, s8, s9, h9, s12, h12, s13]
      refine ⟨rfl, ?_⟩
      refine WS_reg [] ?_; simp [s7, s8, s9, h9, s12, h12, s13]
      refine ⟨⟨3, g + 1, p, by omega, by simp [jw3], by simp, by simp [T3z], by simp [s9], by simp [h9], by simp [BzO, T3z, s7, s8, s2, h2', s3, h3, s4, h4, s5, h5, s6, h6]⟩, ?_⟩
      rw [dj, jM_eq (n := 3) (by simp [jw3])]; decide
    · refine WS_seq (WS_seq (WS_reg [] ?_)); simp [s7, s8, s9, h9, s12, h12, s13]
      refine WS_cond (t := false) (by simp [s7, s8, s9, h9, s12, h12, s13]) (fun h => by cases h) (fun _ => ?_)
      refine WS_exit ?_; simp [s7, s8, s9, h9, s12, h12, s13]
      refine WS_frz 12 12 (some 2) ?_
      simp [frzQ, s12, h12]
      refine WS_seq (WS_reg [] ?_); simp [s7, s8, s9, h9, s12, h12, s13]
      refine WS_reg [] ?_; simp [s7, s8, s9, h9, s12, h12, s13]
      refine ⟨⟨y, z, nx, hE, by simp [BzO, T3z, s7, s8, s2, h2', s3, h3, s4, h4, s5, h5, s6, h6]⟩, ?_⟩
      rw [dx, t3M_eq (x := z) (by simp [T3z])]
      exact hr

end Go.Vw
set_option linter.unusedVariables false
set_option linter.unusedSimpArgs false
namespace Go.Vw
open Go.Proofs

attribute [local simp] RunL_cons RunL_nil AOp_none AOp_some acK_v acK_call agK_tt agK_ff agK_tf agK_ft agK_tup agK_i aop aun St.ev St.heap St.put thenQ blockQ scopeQ upd_apply S0 argSlot lowV V.cells V.isAgg V.fits V.part partOk plains St.ret retSV svOf svsOf retQ retP retAll retOne uL_length uL_get? uL_get St.elems retH ownIdx ownAt
attribute [local simp] RunD_none RunD_some RunD_nil RunE_any acD_v acD_call agD_tt agD_ff agD_tf agD_ft agD_tup entsOf svref SO.opds SO.writes SO.makes callEnt pureSV pureOf RV.isOwn
attribute [local simp] abin_add abin_sub abin_mul abin_quo abin_rem abin_eql abin_neq abin_lss abin_leq abin_gtr abin_geq
attribute [local simp] uL_snoc uL_set uL_take uL_drop uL_append uL_replicate uL_nil
attribute [local simp] acK_callG acD_callG St.giv gsSV gvSV retEnts ownEnts SO.still
attribute [local simp] S0G argSlotG givSV retQG retPG retAllG retOneG HObj.width V.scalar trimQ V.byte
attribute [local simp] zv V.fits fillOk fillV Z_eq
theorem gcd_len {x y : Int} {k : Nat} (hx : zlen x ≤ k) (hy : zlen y ≤ k) : zlen (Int.gcd x y : Int) ≤ k := by
  by_cases h0 : x = 0
  · subst h0; rw [Int.gcd_zero_left]; exact Nat.le_trans (zlen_le (by simp)) hy
  · have := Int.gcd_le_natAbs_left (b := y) h0
    exact Nat.le_trans (zlen_le (by simpa using this)) hx

end Go.Vw
set_option linter.unusedVariables false
set_option linter.unusedSimpArgs false
namespace Go.Vw
open Go.Proofs

def nM (i : Nat) (S : St) : Nat := match S.σ i with | .p (.i _ n) => n.toNat | _ => 0
theorem nM_eq {i : Nat} {S : St} {n : Nat} (h : S.σ i = .p (.i .i64 (n : Int))) : nM i S = n := by simp only [nM, h]; omega

attribute [local simp] RunL_cons RunL_nil AOp_none AOp_some acK_v acK_call agK_tt agK_ff agK_tf agK_ft agK_tup agK_i aop aun St.ev St.heap St.put thenQ blockQ scopeQ upd_apply S0 argSlot lowV V.cells V.isAgg V.fits V.part partOk plains St.ret retSV svOf svsOf retQ retP retAll retOne uL_length uL_get? uL_get St.elems retH ownIdx ownAt
attribute [local simp] RunD_none RunD_some RunD_nil RunE_any acD_v acD_call agD_tt agD_ff agD_tf agD_ft agD_tup entsOf svref SO.opds SO.writes SO.makes callEnt pureSV pureOf RV.isOwn
attribute [local simp] abin_add abin_sub abin_mul abin_quo abin_rem abin_eql abin_neq abin_lss abin_leq abin_gtr abin_geq
attribute [local simp] uL_snoc uL_set uL_take uL_drop uL_append uL_replicate uL_nil
attribute [local simp] acK_callG acD_callG St.giv gsSV gvSV retEnts ownEnts SO.still
attribute [local simp] S0G argSlotG givSV retQG retPG retAllG retOneG HObj.width V.scalar trimQ V.byte
attribute [local simp] zv V.fits fillOk fillV Z_eq
end Go.Vw
set_option linter.unusedVariables false
set_option linter.unusedSimpArgs false
namespace Go.Vw
open Go.Proofs

attribute [local simp] RunL_cons RunL_nil AOp_none AOp_some acK_v acK_call agK_tt agK_ff agK_tf agK_ft agK_tup agK_i aop aun St.ev St.heap St.put thenQ blockQ scopeQ upd_apply S0 argSlot lowV V.cells V.isAgg V.fits V.part partOk plains St.ret retSV svOf svsOf retQ retP retAll retOne uL_length uL_get? uL_get St.elems retH ownIdx ownAt
attribute [local simp] RunD_none RunD_some RunD_nil RunE_any acD_v acD_call agD_tt agD_ff agD_tf agD_ft agD_tup entsOf svref SO.opds SO.writes SO.makes callEnt pureSV pureOf RV.isOwn
attribute [local simp] abin_add abin_sub abin_mul abin_quo abin_rem abin_eql abin_neq abin_lss abin_leq abin_gtr abin_geq
attribute [local simp] uL_snoc uL_set uL_take uL_drop uL_append uL_replicate uL_nil
attribute [local simp] acK_callG acD_callG St.giv gsSV gvSV retEnts ownEnts SO.still
attribute [local simp] S0G argSlotG givSV retQG retPG retAllG retOneG HObj.width V.scalar trimQ V.byte
attribute [local simp] zv V.fits fillOk fillV Z_eq
end Go.Vw
set_option linter.unusedVariables false
set_option linter.unusedSimpArgs false
namespace Go.Vw
open Go.Proofs

/-- The greatest number, of at most so much, whose power is not above X. -/
def irt (X k : Nat) : Nat → Nat
  | 0 => 0
  | n + 1 => if (n + 1) ^ k ≤ X then n + 1 else irt X k n
def iroot (X k : Nat) : Nat := irt X k X

theorem irt_le {X k : Nat} (hk : 0 < k) : ∀ n, (irt X k n) ^ k ≤ X := by
  intro n
  induction n with
  | zero => rw [irt, Nat.zero_pow hk]; omega
  | succ n ih =>
    rw [irt]
    split
    · assumption
    · exact ih
theorem irt_gt {X k : Nat} : ∀ n m, irt X k n < m → m ≤ n → X < m ^ k := by
  intro n
  induction n with
  | zero => intro m h1 h2; omega
  | succ n ih =>
    intro m h1 h2
    rw [irt] at h1
    split at h1
    · omega
    · rcases Nat.lt_or_ge n m with h | h
      · obtain rfl : m = n + 1 := by omega
        omega
      · exact ih m h1 h
theorem iroot_facts (X : Nat) {k : Nat} (hk : 0 < k) : (iroot X k) ^ k ≤ X ∧ X < (iroot X k + 1) ^ k := by
  refine ⟨irt_le hk X, ?_⟩
  rcases Nat.lt_or_ge X (iroot X k + 1) with h | h
  · exact Nat.lt_of_lt_of_le h (Nat.le_self_pow (by omega) _)
  · exact irt_gt X _ (by rw [iroot]; omega) h
theorem iroot_of {X k r : Nat} (h1 : r ^ k ≤ X) (h2 : X < (r + 1) ^ k) (hk : 0 < k) : r = iroot X k := by
  obtain ⟨f1, f2⟩ := iroot_facts X hk
  rcases Nat.lt_trichotomy r (iroot X k) with h | h | h
  · have := Nat.pow_le_pow_left (show r + 1 ≤ iroot X k by omega) k
    omega
  · exact h
  · have := Nat.pow_le_pow_left (show iroot X k + 1 ≤ r by omega) k
    omega

/-- What Root answers. -/
def rootR (x n : Int) : List RV := if n < 1 ∨ 64 < n ∨ x < 0 then [.pure (Z 0), .pure (.i .i64 1)] else [.pure (Z (iroot x.toNat n.toNat : Int)), .pure (.i .i64 0)]

theorem zlen_pow (m : Int) (j : Nat) : zlen (m ^ j) ≤ j * zlen m + 1 := by
  induction j with
  | zero => rw [Int.pow_zero]; have := zlen_one; omega
  | succ j ih =>
    rw [Int.pow_succ, Nat.succ_mul]
    have := zlen_mul (m ^ j) m
    omega
theorem zlen_two {i k : Nat} (h : i < 64 * k) : zlen ((2 ^ i : Nat) : Int) ≤ k := by
  apply zlen_lt
  rw [Int.natAbs_natCast, show (18446744073709551616 : Nat) = 2 ^ 64 by rfl, ← Nat.pow_mul]
  exact Nat.pow_lt_pow_right (by omega) h

/-- What both keep while a power is taken: the number in box 10, its power so far in box 11. -/
def RtJ (K : St → Prop) (si sk : Nat) (m : Int) (k : Nat) (S : St) : Prop := ∃ i g10 g11 : Nat, S.σ si = .p (.i .i64 (i : Int)) ∧ S.σ sk = .p (.i .i64 (k : Int)) ∧ i ≤ k ∧ S.σ 10 = .ptr 10 g10 0 ∧ S.h 10 = ⟨g10, some (.box 24 [.b (zn m), .sl none (uL (zl m))])⟩ ∧
  S.σ 11 = .ptr 11 g11 0 ∧ S.h 11 = ⟨g11, some (.box 24 [.b (zn (m ^ i)), .sl none (uL (zl (m ^ i)))])⟩ ∧ K S

def RtZK (s : Bool) (l : List Nat) (a b : Int) (k : Nat) (S : St) : Prop := S.σ 1 = .p (.i .i64 (k : Int)) ∧ S.σ 2 = .ptr 2 1 0 ∧ S.h 2 = ⟨1, some (.box 24 [.b s, .sl none (uL l)])⟩ ∧ S.σ 4 = .ptr 4 1 0 ∧ S.h 4 = ⟨1, some (.box 24 [.b false, .sl none []])⟩ ∧
  S.σ 6 = .ptr 6 1 0 ∧ S.h 6 = ⟨1, some (.box 24 [.b (zn a), .sl none (uL (zl a))])⟩ ∧ S.σ 9 = .ptr 9 1 0 ∧ S.h 9 = ⟨1, some (.box 24 [.b (zn b), .sl none (uL (zl b))])⟩
def RtZ (s : Bool) (l : List Nat) (X k K : Nat) (S : St) : Prop := ∃ a b : Nat, a < b ∧ a ^ k ≤ X ∧ X < b ^ k ∧ zlen (b : Int) ≤ K ∧ RtZK s l (a : Int) (b : Int) k S

attribute [local simp] RunL_cons RunL_nil AOp_none AOp_some acK_v acK_call agK_tt agK_ff agK_tf agK_ft agK_tup agK_i aop aun St.ev St.heap St.put thenQ blockQ scopeQ upd_apply S0 argSlot lowV V.cells V.isAgg V.fits V.part partOk plains St.ret retSV svOf svsOf retQ retP retAll retOne uL_length uL_get? uL_get St.elems retH ownIdx ownAt
attribute [local simp] RunD_none RunD_some RunD_nil RunE_any acD_v acD_call agD_tt agD_ff agD_tf agD_ft agD_tup entsOf svref SO.opds SO.writes SO.makes callEnt pureSV pureOf RV.isOwn
attribute [local simp] abin_add abin_sub abin_mul abin_quo abin_rem abin_eql abin_neq abin_lss abin_leq abin_gtr abin_geq
attribute [local simp] uL_snoc uL_set uL_take uL_drop uL_append uL_replicate uL_nil
attribute [local simp] acK_callG acD_callG St.giv gsSV gvSV retEnts ownEnts SO.still
attribute [local simp] S0G argSlotG givSV retQG retPG retAllG retOneG HObj.width V.scalar trimQ V.byte
attribute [local simp] zv V.fits fillOk fillV Z_eq
set_option maxHeartbeats 1000000 in
theorem zroot {K : Nat} {v : V} {x : Int} (hv : IsZ K v x) (hK : K ≤ 4000) (n : Int) (hn1 : -9223372036854775808 ≤ n) (hn2 : n ≤ 9223372036854775807) :
    Spec Tryz.prog f_zint_Root [v, .i .i64 n] (· = rootR x n) := by
  have sg := zsign hv (by omega)
  have o0 := zof 0 (by omega) (by omega)
  have o1 := zof 1 (by omega) (by omega)
  have q := hv.zlen
  have hv2 := hv
  obtain ⟨s, l, rfl, h, rfl⟩ := hv
  have bs := nbits_spec l h.dl (by have := h.len; omega)
  have e : Nm.val 18446744073709551616 l = (zi s l).natAbs := (zi_abs s l).symm
  rw [e] at bs
  obtain ⟨x, hx⟩ : ∃ x, x = zi s l := ⟨_, rfl⟩
  rw [← hx] at bs sg q hv2 ⊢
  have hb : bl x.natAbs ≤ 64 * K := bl_le (by rw [Nat.pow_mul]; exact lt_zlen' q)
  refine spec_at Tryz.func65 ok_zint_Root [] rfl (by simp) ?_
  unfold sc_zint_Root
  by_cases c0 : n < 1
  · rw [rootR, if_pos (.inl c0)]
    refine WS_seq (WS_reg [] ?_); simp [c0, Z_zero]
    refine WS_seq (WS_seq (WS_reg [] ?_)); simp [c0, Z_zero]
    refine WS_cond (t := true) (by simp [c0, Z_zero]) (fun _ => ?_) (fun h => by cases h)
    refine WS_seq (WS_reg [] ?_); simp [c0, Z_zero]
    refine WS_ret ?_; simp [c0, Z_zero]
  · by_cases c1 : 64 < n
    · rw [rootR, if_pos (.inr (.inl c1))]
      refine WS_seq (WS_reg [] ?_); simp [c0, c1, Z_zero]
      refine WS_seq (WS_seq (WS_reg [] ?_)); simp [c0, c1, Z_zero]
      refine WS_cond (t := true) (by simp [c0, c1, Z_zero]) (fun _ => ?_) (fun h => by cases h)
      refine WS_seq (WS_reg [] ?_); simp [c0, c1, Z_zero]
      refine WS_ret ?_; simp [c0, c1, Z_zero]
    · by_cases c2 : x < 0
      · rw [rootR, if_pos (.inr (.inr c2))]
        rw [sign_lt c2] at sg
        refine WS_seq (WS_reg [] ?_); simp [c0, c1, Z_zero]
        refine WS_seq (WS_seq (WS_reg [] ?_)); simp [c0, c1, Z_zero]
        refine callK sg ?_; simp [c0, c1, Z_zero]
        refine WS_cond (t := true) (by simp [c0, c1, Z_zero]) (fun _ => ?_) (fun h => by cases h)
        refine WS_seq (WS_reg [] ?_); simp [c0, c1, Z_zero]
        refine WS_ret ?_; simp [c0, c1, Z_zero]
      · have c3 : ¬ x.sign < 0 := by rw [Int.sign_neg_iff]; exact c2
        rw [rootR, if_neg (by omega)]
        obtain ⟨k, rfl⟩ := Int.eq_ofNat_of_zero_le (show 0 ≤ n by omega)
        obtain ⟨X, rfl⟩ := Int.eq_ofNat_of_zero_le (show 0 ≤ x by omega)
        have e1 : ((k : Int)).toNat = k := by omega
        have e2 : ((X : Int)).toNat = X := by omega
        have e3 : ((X : Int)).natAbs = X := by omega
        rw [e1, e2]
        rw [e3] at bs hb
        have hbx := (bl_facts X).1
        obtain ⟨b, hbe⟩ : ∃ b, b = bl X := ⟨_, rfl⟩
        rw [← hbe] at bs hb hbx
        obtain ⟨t, ht⟩ : ∃ t, t = b / k := ⟨_, rfl⟩
        have htb : t ≤ b := by rw [ht]; exact Nat.div_le_self _ _
        have t1 : IntKind.i64.wrap ((b : Int) / (k : Int)) = (t : Int) := by rw [← Int.natCast_ediv, ← ht]; exact i64_nat _ (by omega)
        have t2 : IntKind.i64.wrap ((t : Int) + 1) = (t : Int) + 1 := i64_succ t (by omega)
        have t3 : ¬ (262144 : Int) < (t : Int) + 1 := by omega
        have k0 : k ≠ 0 := by omega
        have sl := nshl_spec [1] (by intro y hy; simp at hy; omega) (by simp) ((t : Int) + 1)
        rw [if_neg (by omega)] at sl
        have e4 : Nm.val 18446744073709551616 [1] * 2 ^ ((t : Int) + 1).toNat = 2 ^ (t + 1) := by rw [show ((t : Int) + 1).toNat = t + 1 by omega]; simp [Nm.val]
        rw [e4] at sl
        have zt : zlen ((2 ^ (t + 1) : Nat) : Int) ≤ K + 1 := zlen_two (by omega)
        have hX : X < (2 ^ (t + 1)) ^ k := by
          rw [← Nat.pow_mul]
          refine Nat.lt_of_lt_of_le hbx (Nat.pow_le_pow_right (by omega) ?_)
          have := Nat.div_add_mod b k
          have := Nat.mod_lt b (show 0 < k by omega)
          rw [Nat.succ_mul, Nat.mul_comm, ht]
          omega
        obtain ⟨P, hP⟩ : ∃ P, P = 2 ^ (t + 1) := ⟨_, rfl⟩
        rw [← hP] at sl zt hX
        have mk := made_spec false (Nm.dig 18446744073709551616 P) ⟨Nm.dig_lt (by omega) _, by have := zt; rw [zlen, zl, Int.natAbs_natCast] at this; omega⟩
        have e5 : zi false (Nm.dig 18446744073709551616 P) = (P : Int) := by simp [zi, Nm.val_dig]
        rw [e5] at mk
        have z0 : (0 : Nat) ^ k = 0 := Nat.zero_pow (by omega)
        refine WS_seq (WS_reg [] ?_); simp [c0, c1, c3, t1, t2, t3, k0]
        refine WS_seq (WS_seq (WS_reg [] ?_)); simp [c0, c1, c3, t1, t2, t3, k0]
        refine callK sg ?_; simp [c0, c1, c3, t1, t2, t3, k0]
        refine WS_cond (t := false) (by simp [c0, c1, c3, t1, t2, t3, k0]) (fun h => by cases h) (fun _ => ?_)
        refine WS_skip ?_; simp [c0, c1, c3, t1, t2, t3, k0]
        refine WS_seq (WS_reg [] ?_); simp [c0, c1, c3, t1, t2, t3, k0]
        refine callK o0 ?_; simp [c0, c1, c3, t1, t2, t3, k0]
        refine WS_seq (WS_reg [] ?_); simp [c0, c1, c3, t1, t2, t3, k0]
        refine callK bs ?_; simp [c0, c1, c3, t1, t2, t3, k0]
        refine callK sl ?_; simp [c0, c1, c3, t1, t2, t3, k0]
        refine WS_seq (WS_reg [] ?_); simp [c0, c1, c3, t1, t2, t3, k0]
        refine callK mk ?_; simp [c0, c1, c3, t1, t2, t3, k0]
        refine WS_block ?_
        refine WS_loop (RtZ s l X k (K + 1)) (fun S => bxM 9 S - bxM 6 S) ⟨0, P, ?_, by rw [z0]; omega, hX, zt, rfl, rfl, rfl, rfl, rfl, rfl, rfl, rfl, rfl⟩ ?_
        · rcases Nat.eq_zero_or_pos P with h0 | h0
          · rw [h0, z0] at hX; omega
          · exact h0
        rintro S ⟨a, B, hab, haX, hXB, hB, s1, s2, h2, s4, h4, s6, h6, s9, h9⟩
        have d6 := bxM_eq h6
        have d9 := bxM_eq h9
        rw [zl, Nm.val_dig (by omega)] at d6 d9
        have ha : zlen (a : Int) ≤ K + 1 := Nat.le_trans (zlen_le (by omega)) hB
        have ad := zadd (isZ_of ha) (isZ_of hB) (by omega)
        obtain ⟨w, hw⟩ : ∃ w, w = a + B := ⟨_, rfl⟩
        have hwc : (a : Int) + (B : Int) = (w : Int) := by omega
        rw [hwc] at ad
        have hwl : zlen (w : Int) ≤ K + 2 := by rw [← hwc]; have := zlen_add (a : Int) (B : Int); omega
        have sr := nshr_spec (zl (w : Int)) (zl_dl _) (by have := hwl; rw [zlen] at this; omega) 1 (by omega)
        have e6 : Nm.val 18446744073709551616 (zl (w : Int)) / 2 ^ (1 : Int).toNat = w / 2 := by rw [zl, Nm.val_dig (by omega)]; rfl
        rw [e6] at sr
        obtain ⟨m, hm⟩ : ∃ m, m = w / 2 := ⟨_, rfl⟩
        rw [← hm] at sr
        have hml : zlen (m : Int) ≤ K + 1 := Nat.le_trans (zlen_le (by omega)) hB
        have mk := made_spec false (Nm.dig 18446744073709551616 m) ⟨Nm.dig_lt (by omega) _, by have := hml; rw [zlen, zl, Int.natAbs_natCast] at this; omega⟩
        have e7 : zi false (Nm.dig 18446744073709551616 m) = (m : Int) := by simp [zi, Nm.val_dig]
        rw [e7] at mk
        have cm := zcmp (isZ_of hml) (isZ_of ha) (by omega)
        by_cases hma : m = a
        · subst hma
          rw [Int.sub_self, Int.sign_zero] at cm
          have hr := iroot_of haX (by rw [show m + 1 = B by omega]; exact hXB) (by omega)
          rw [← hr]
          refine WS_block (WS_seq (WS_reg [] ?_)); simp [s1, s2, h2, s4, h4, s6, h6, s9, h9, U]
          refine callK ad ?_; simp [s1, s2, h2, s4, h4, s6, h6, s9, h9, U]
          refine callK sr ?_; simp [s1, s2, h2, s4, h4, s6, h6, s9, h9, U]
          refine callK mk ?_; simp [s1, s2, h2, s4, h4, s6, h6, s9, h9, U]
          refine WS_seq (WS_seq (WS_reg [] ?_)); simp [s1, s2, h2, s4, h4, s6, h6, s9, h9, U]
          refine callK cm ?_; simp [s1, s2, h2, s4, h4, s6, h6, s9, h9, U]
          refine WS_cond (t := true) (by simp [s1, s2, h2, s4, h4, s6, h6, s9, h9, U]) (fun _ => ?_) (fun h => by cases h)
          refine WS_seq (WS_reg [] ?_); simp [s1, s2, h2, s4, h4, s6, h6, s9, h9, U]
          refine WS_ret ?_; simp [s1, s2, h2, s4, h4, s6, h6, s9, h9, U]
        · have cs : ((m : Int) - (a : Int)).sign = 1 := Int.sign_eq_one_of_pos (by omega)
          rw [cs] at cm
          refine WS_block (WS_seq (WS_reg [] ?_)); simp [s1, s2, h2, s4, h4, s6, h6, s9, h9, U]
          refine callK ad ?_; simp [s1, s2, h2, s4, h4, s6, h6, s9, h9, U]
          refine callK sr ?_; simp [s1, s2, h2, s4, h4, s6, h6, s9, h9, U]
          refine callK mk ?_; simp [s1, s2, h2, s4, h4, s6, h6, s9, h9, U]
          refine WS_seq (WS_seq (WS_reg [] ?_)); simp [s1, s2, h2, s4, h4, s6, h6, s9, h9, U]
          refine callK cm ?_; simp [s1, s2, h2, s4, h4, s6, h6, s9, h9, U]
          refine WS_cond (t := false) (by simp [s1, s2, h2, s4, h4, s6, h6, s9, h9, U]) (fun h => by cases h) (fun _ => ?_)
          refine WS_skip ?_; simp [s1, s2, h2, s4, h4, s6, h6, s9, h9, U]
          refine WS_seq (WS_reg [] ?_); simp [s1, s2, h2, s4, h4, s6, h6, s9, h9, U]
          refine callK o1 ?_; simp [s1, s2, h2, s4, h4, s6, h6, s9, h9, U]
          refine WS_seq (WS_seq (WS_reg [] ?_)); simp [s1, s2, h2, s4, h4, s6, h6, s9, h9, U]
          refine WS_block ?_
          have p0 : (m : Int) ^ 0 = 1 := Int.pow_zero _
          refine WS_loop (RtJ (RtZK s l (a : Int) (B : Int) k) 52 51 (m : Int) k) (fun S => nM 51 S - nM 52 S) ⟨0, _, _, rfl, by simp, by omega, rfl, rfl, rfl, by simp [p0], by simp [RtZK, s1, s2, h2, s4, h4, s6, h6, s9, h9]⟩ ?_
          clear s1 s2 h2 s4 h4 s6 h6 s9 h9
          rintro S' ⟨i, g10, g11, s52, s51, hik, s10, h10, s11, h11, s1, s2, h2, s4, h4, s6, h6, s9, h9⟩
          have d52 := nM_eq s52
          have d51 := nM_eq s51
          have lp : ∀ j, j ≤ k → zlen ((m : Int) ^ j) ≤ 2 ^ 20 := fun j hj => by
            have h1 := zlen_pow (m : Int) j
            have h2 := Nat.mul_le_mul (show j ≤ 64 by omega) hml
            omega
          by_cases hlt : i < k
          · have li := lp i (by omega)
            have mo := zmul (isZ_of li) ((isZ_of hml).mono (show K + 1 ≤ 2 ^ 20 by omega)) (by omega)
            rw [← Int.pow_succ] at mo
            have es := i64_succ i (by omega)
            refine WS_seq (WS_reg [] ?_); simp [s52, s51, s10, h10, s11, h11, hlt, es]
            refine WS_seq ?_
            refine WS_cond (t := true) (by simp [s52, s51, s10, h10, s11, h11, hlt, es]) (fun _ => ?_) (fun h => by cases h)
            refine WS_skip ?_; simp [s52, s51, s10, h10, s11, h11, hlt, es]
            refine WS_seq (WS_block (WS_reg [] ?_)); simp [s52, s51, s10, h10, s11, h11, hlt, es]
            refine callK mo ?_; simp [s52, s51, s10, h10, s11, h11, hlt, es]
            refine WS_reg [] ?_; simp [s52, s51, s10, h10, s11, h11, hlt, es]
            refine ⟨⟨i + 1, g10, g11, by simp, by simp [s51], by omega, by simp [s10], by simp [h10], by simp [s11], by simp, by simp [RtZK, s1, s2, h2, s4, h4, s6, h6, s9, h9]⟩, ?_⟩
            show nM 51 _ - nM 52 _ < nM 51 S' - nM 52 S'
            rw [d51, d52, nM_eq (i := 51) (n := k) (by simp [s51]), nM_eq (i := 52) (n := i + 1) (by simp)]
            omega
          · obtain rfl : i = k := by omega
            have cq := zcmp (isZ_of (lp i (Nat.le_refl _))) (hv2.mono (show K ≤ 2 ^ 20 by omega)) (by omega)
            by_cases hle : m ^ i ≤ X
            · have hs : ((m : Int) ^ i - (X : Int)).sign ≤ 0 := by
                rw [← Int.natCast_pow, Int.sign_nonpos_iff]; omega
              refine WS_seq (WS_reg [] ?_); simp [s52, s51, s10, h10, s11, h11, s1, s2, h2, s4, h4, s6, h6, s9, h9, hs]
              refine WS_seq ?_
              refine WS_cond (t := false) (by simp [s52, s51, s10, h10, s11, h11, s1, s2, h2, s4, h4, s6, h6, s9, h9, hs]) (fun h => by cases h) (fun _ => ?_)
              refine WS_exit ?_; simp [s52, s51, s10, h10, s11, h11, s1, s2, h2, s4, h4, s6, h6, s9, h9, hs]
              refine WS_seq (WS_reg [] ?_); simp [s52, s51, s10, h10, s11, h11, s1, s2, h2, s4, h4, s6, h6, s9, h9, hs]
              refine callK cq ?_; simp [s52, s51, s10, h10, s11, h11, s1, s2, h2, s4, h4, s6, h6, s9, h9, hs]
              refine WS_cond (t := true) (by simp [s52, s51, s10, h10, s11, h11, s1, s2, h2, s4, h4, s6, h6, s9, h9, hs]) (fun _ => ?_) (fun h => by cases h)
              refine WS_reg [] ?_; simp [s52, s51, s10, h10, s11, h11, s1, s2, h2, s4, h4, s6, h6, s9, h9, hs]
              refine ⟨⟨m, B, by omega, hle, hXB, hB, by simp [RtZK, s1, s2, h2, s4, h4, s6, h6, s9, h9]⟩, ?_⟩
              show bxM 9 _ - bxM 6 _ < bxM 9 S - bxM 6 S
              rw [d6, d9, bxM_eq (i := 9) (g := 1) (t := 24) (n := .b (zn (B : Int))) (l := zl (B : Int)) (by simp [h9]), bxM_eq (i := 6) (g := 1) (t := 24) (n := .b (zn (m : Int))) (l := zl (m : Int)) (by simp), zl, zl, Nm.val_dig (by omega), Nm.val_dig (by omega)]
              omega
            · have hs : ¬ ((m : Int) ^ i - (X : Int)).sign ≤ 0 := by
                rw [← Int.natCast_pow, Int.sign_nonpos_iff]; omega
              refine WS_seq (WS_reg [] ?_); simp [s52, s51, s10, h10, s11, h11, s1, s2, h2, s4, h4, s6, h6, s9, h9, hs]
              refine WS_seq ?_
              refine WS_cond (t := false) (by simp [s52, s51, s10, h10, s11, h11, s1, s2, h2, s4, h4, s6, h6, s9, h9, hs]) (fun h => by cases h) (fun _ => ?_)
              refine WS_exit ?_; simp [s52, s51, s10, h10, s11, h11, s1, s2, h2, s4, h4, s6, h6, s9, h9, hs]
              refine WS_seq (WS_reg [] ?_); simp [s52, s51, s10, h10, s11, h11, s1, s2, h2, s4, h4, s6, h6, s9, h9, hs]
              refine callK cq ?_; simp [s52, s51, s10, h10, s11, h11, s1, s2, h2, s4, h4, s6, h6, s9, h9, hs]
              refine WS_cond (t := false) (by simp [s52, s51, s10, h10, s11, h11, s1, s2, h2, s4, h4, s6, h6, s9, h9, hs]) (fun h => by cases h) (fun _ => ?_)
              refine WS_reg [] ?_; simp [s52, s51, s10, h10, s11, h11, s1, s2, h2, s4, h4, s6, h6, s9, h9, hs]
              refine ⟨⟨a, m, by omega, haX, by omega, hml, by simp [RtZK, s1, s2, h2, s4, h4, s6, h6, s9, h9]⟩, ?_⟩
              show bxM 9 _ - bxM 6 _ < bxM 9 S - bxM 6 S
              rw [d6, d9, bxM_eq (i := 6) (g := 1) (t := 24) (n := .b (zn (a : Int))) (l := zl (a : Int)) (by simp [h6]), bxM_eq (i := 9) (g := 1) (t := 24) (n := .b (zn (m : Int))) (l := zl (m : Int)) (by simp), zl, zl, Nm.val_dig (by omega), Nm.val_dig (by omega)]
              omega

end Go.Vw
set_option linter.unusedVariables false
set_option linter.unusedSimpArgs false
namespace Go.Vw
open Go.Proofs

def RtRK (s : Bool) (l : List Nat) (a : Int) (d : Int) (k : Nat) (S : St) : Prop := S.σ 7 = .p (.i .i64 d) ∧ S.σ 2 = .ptr 2 1 0 ∧ S.h 2 = ⟨1, some (.box 24 [.b s, .sl none (uL l)])⟩ ∧ S.σ 4 = .ptr 4 1 0 ∧ S.h 4 = ⟨1, some (.box 24 [.b false, .sl none []])⟩ ∧
  S.σ 6 = .ptr 6 1 0 ∧ S.h 6 = ⟨1, some (.box 24 [.b (zn a), .sl none (uL (zl a))])⟩
/-- d is how many bits are left: slot 7 holds d - 1. -/
def RtR (s : Bool) (l : List Nat) (X k K : Nat) (S : St) : Prop := ∃ a d : Nat, d ≤ 64 * K + 1 ∧ a ^ k ≤ X ∧ X < (a + 2 ^ d) ^ k ∧ S.σ 1 = .p (.i .i64 (k : Int)) ∧ RtRK s l (a : Int) ((d : Int) - 1) k S
def nM1 (i : Nat) (S : St) : Nat := match S.σ i with | .p (.i _ n) => (n + 1).toNat | _ => 0
theorem nM1_eq {i : Nat} {S : St} {n : Nat} (h : S.σ i = .p (.i .i64 ((n : Int) - 1))) : nM1 i S = n := by simp only [nM1, h]; omega

attribute [local simp] RunL_cons RunL_nil AOp_none AOp_some acK_v acK_call agK_tt agK_ff agK_tf agK_ft agK_tup agK_i aop aun St.ev St.heap St.put thenQ blockQ scopeQ upd_apply S0 argSlot lowV V.cells V.isAgg V.fits V.part partOk plains St.ret retSV svOf svsOf retQ retP retAll retOne uL_length uL_get? uL_get St.elems retH ownIdx ownAt
attribute [local simp] RunD_none RunD_some RunD_nil RunE_any acD_v acD_call agD_tt agD_ff agD_tf agD_ft agD_tup entsOf svref SO.opds SO.writes SO.makes callEnt pureSV pureOf RV.isOwn
attribute [local simp] abin_add abin_sub abin_mul abin_quo abin_rem abin_eql abin_neq abin_lss abin_leq abin_gtr abin_geq
attribute [local simp] uL_snoc uL_set uL_take uL_drop uL_append uL_replicate uL_nil
attribute [local simp] acK_callG acD_callG St.giv gsSV gvSV retEnts ownEnts SO.still
attribute [local simp] S0G argSlotG givSV retQG retPG retAllG retOneG HObj.width V.scalar trimQ V.byte
attribute [local simp] zv V.fits fillOk fillV Z_eq
set_option maxHeartbeats 1000000 in
theorem rroot {K : Nat} {v : V} {x : Int} (hv : IsZ K v x) (hK : K ≤ 4000) (n : Int) (hn1 : -9223372036854775808 ≤ n) (hn2 : n ≤ 9223372036854775807) :
    Spec Tryz.prog f_ref02_Root [v, .i .i64 n] (· = rootR x n) := by
  have sg := rsign hv (by omega)
  have o0 := rof 0 (by omega) (by omega)
  have o1 := rof 1 (by omega) (by omega)
  have q := hv.zlen
  have hv2 := hv
  obtain ⟨s, l, rfl, h, rfl⟩ := hv
  have bs := rbits_spec l h.dl (by have := h.len; omega)
  have e : Nm.val 18446744073709551616 l = (zi s l).natAbs := (zi_abs s l).symm
  rw [e] at bs
  obtain ⟨x, hx⟩ : ∃ x, x = zi s l := ⟨_, rfl⟩
  rw [← hx] at bs sg q hv2 ⊢
  have hb : bl x.natAbs ≤ 64 * K := bl_le (by rw [Nat.pow_mul]; exact lt_zlen' q)
  refine spec_at Tryz.func71 ok_ref02_Root [] rfl (by simp) ?_
  unfold sc_ref02_Root
  by_cases c0 : n < 1
  · rw [rootR, if_pos (.inl c0)]
    refine WS_seq (WS_reg [] ?_); simp [c0, Z_zero]
    refine WS_seq (WS_seq (WS_reg [] ?_)); simp [c0, Z_zero]
    refine WS_cond (t := true) (by simp [c0, Z_zero]) (fun _ => ?_) (fun h => by cases h)
    refine WS_seq (WS_reg [] ?_); simp [c0, Z_zero]
    refine WS_ret ?_; simp [c0, Z_zero]
  · by_cases c1 : 64 < n
    · rw [rootR, if_pos (.inr (.inl c1))]
      refine WS_seq (WS_reg [] ?_); simp [c0, c1, Z_zero]
      refine WS_seq (WS_seq (WS_reg [] ?_)); simp [c0, c1, Z_zero]
      refine WS_cond (t := true) (by simp [c0, c1, Z_zero]) (fun _ => ?_) (fun h => by cases h)
      refine WS_seq (WS_reg [] ?_); simp [c0, c1, Z_zero]
      refine WS_ret ?_; simp [c0, c1, Z_zero]
    · by_cases c2 : x < 0
      · rw [rootR, if_pos (.inr (.inr c2))]
        rw [sign_lt c2] at sg
        refine WS_seq (WS_reg [] ?_); simp [c0, c1, Z_zero]
        refine WS_seq (WS_seq (WS_reg [] ?_)); simp [c0, c1, Z_zero]
        refine callK sg ?_; simp [c0, c1, Z_zero]
        refine WS_cond (t := true) (by simp [c0, c1, Z_zero]) (fun _ => ?_) (fun h => by cases h)
        refine WS_seq (WS_reg [] ?_); simp [c0, c1, Z_zero]
        refine WS_ret ?_; simp [c0, c1, Z_zero]
      · have c3 : ¬ x.sign < 0 := by rw [Int.sign_neg_iff]; exact c2
        rw [rootR, if_neg (by omega)]
        obtain ⟨k, rfl⟩ := Int.eq_ofNat_of_zero_le (show 0 ≤ n by omega)
        obtain ⟨X, rfl⟩ := Int.eq_ofNat_of_zero_le (show 0 ≤ x by omega)
        have e1 : ((k : Int)).toNat = k := by omega
        have e2 : ((X : Int)).toNat = X := by omega
        have e3 : ((X : Int)).natAbs = X := by omega
        rw [e1, e2]
        rw [e3] at bs hb
        have hbx := (bl_facts X).1
        obtain ⟨b, hbe⟩ : ∃ b, b = bl X := ⟨_, rfl⟩
        rw [← hbe] at bs hb hbx
        obtain ⟨t, ht⟩ : ∃ t, t = b / k := ⟨_, rfl⟩
        have htb : t ≤ b := by rw [ht]; exact Nat.div_le_self _ _
        have t1 : IntKind.i64.wrap ((b : Int) / (k : Int)) = (t : Int) := by rw [← Int.natCast_ediv, ← ht]; exact i64_nat _ (by omega)
        have k0 : k ≠ 0 := by omega
        have hX : X < (0 + 2 ^ (t + 1)) ^ k := by
          rw [Nat.zero_add, ← Nat.pow_mul]
          refine Nat.lt_of_lt_of_le hbx (Nat.pow_le_pow_right (by omega) ?_)
          have := Nat.div_add_mod b k
          have := Nat.mod_lt b (show 0 < k by omega)
          rw [Nat.succ_mul, Nat.mul_comm, ht]
          omega
        have z0 : (0 : Nat) ^ k = 0 := Nat.zero_pow (by omega)
        have t4 : (t : Int) = ((t + 1 : Nat) : Int) - 1 := by omega
        refine WS_seq (WS_reg [] ?_); simp [c0, c1, c3, t1, k0]
        refine WS_seq (WS_seq (WS_reg [] ?_)); simp [c0, c1, c3, t1, k0]
        refine callK sg ?_; simp [c0, c1, c3, t1, k0]
        refine WS_cond (t := false) (by simp [c0, c1, c3, t1, k0]) (fun h => by cases h) (fun _ => ?_)
        refine WS_skip ?_; simp [c0, c1, c3, t1, k0]
        refine WS_seq (WS_reg [] ?_); simp [c0, c1, c3, t1, k0]
        refine callK o0 ?_; simp [c0, c1, c3, t1, k0]
        refine WS_seq (WS_seq (WS_reg [] ?_)); simp [c0, c1, c3, t1, k0]
        refine callK bs ?_; simp [c0, c1, c3, t1, k0]
        refine WS_block ?_
        refine WS_loop (RtR s l X k K) (nM1 7) ⟨0, t + 1, by omega, by rw [z0]; omega, hX, rfl, by simp, rfl, rfl, rfl, rfl, rfl, rfl⟩ ?_
        rintro S ⟨a, d, hd, haX, hXd, s1, s7, s2, h2, s4, h4, s6, h6⟩
        have dm := nM1_eq s7
        have haX' : a ≤ X := Nat.le_trans (Nat.le_self_pow (by omega) _) haX
        have ha : zlen (a : Int) ≤ K := Nat.le_trans (zlen_le (by omega)) q
        cases d with
        | zero =>
          have hr := iroot_of haX hXd (by omega)
          rw [← hr]
          have hng : ¬ (0 : Int) ≤ ((0 : Nat) : Int) - 1 := by omega
          refine WS_seq (WS_seq (WS_reg [] ?_)); simp [s1, s7, s2, h2, s4, h4, s6, h6, hng]
          refine WS_cond (t := false) (by simp [s1, s7, s2, h2, s4, h4, s6, h6, hng]) (fun h => by cases h) (fun _ => ?_)
          refine WS_exit ?_; simp [s1, s7, s2, h2, s4, h4, s6, h6, hng]
          refine WS_seq (WS_reg [] ?_); simp [s1, s7, s2, h2, s4, h4, s6, h6, hng]
          refine WS_ret ?_; simp [s1, s7, s2, h2, s4, h4, s6, h6, hng]
        | succ d =>
          have e8 : ((d + 1 : Nat) : Int) - 1 = (d : Int) := by omega
          rw [e8] at s7
          have sl := rshl_spec [1] (by intro y hy; simp at hy; omega) (by simp) (d : Int)
          rw [if_neg (by omega)] at sl
          have e4 : Nm.val 18446744073709551616 [1] * 2 ^ ((d : Int)).toNat = 2 ^ d := by rw [show ((d : Int)).toNat = d by omega]; simp [Nm.val]
          rw [e4] at sl
          have zt : zlen ((2 ^ d : Nat) : Int) ≤ K + 1 := zlen_two (by omega)
          obtain ⟨P, hP⟩ : ∃ P, P = 2 ^ d := ⟨_, rfl⟩
          have hXd' : X < (a + 2 * P) ^ k := by rw [hP, Nat.mul_comm, ← Nat.pow_succ]; exact hXd
          rw [← hP] at sl zt
          have hv3 : IsZ (K + 1) (zv false (Nm.dig 18446744073709551616 P)) (P : Int) := ⟨false, _, rfl, ⟨Nm.dig_lt (by omega) _, by have := zt; rw [zlen, zl, Int.natAbs_natCast] at this; exact this⟩, by simp [zi, Nm.val_dig]⟩
          have ad := radd ((isZ_of ha).mono (show K ≤ K + 1 by omega)) hv3 (by omega)
          obtain ⟨m, hm⟩ : ∃ m, m = a + P := ⟨_, rfl⟩
          have hmc : (a : Int) + (P : Int) = (m : Int) := by omega
          rw [hmc] at ad
          have hml : zlen (m : Int) ≤ K + 2 := by rw [← hmc]; have := zlen_add (a : Int) (P : Int); omega
          have p0 : (m : Int) ^ 0 = 1 := Int.pow_zero _
          refine WS_seq (WS_seq (WS_reg [] ?_)); simp [s1, s7, s2, h2, s4, h4, s6, h6, U]
          refine WS_cond (t := true) (by simp [s1, s7, s2, h2, s4, h4, s6, h6, U]) (fun _ => ?_) (fun h => by cases h)
          refine WS_skip ?_; simp [s1, s7, s2, h2, s4, h4, s6, h6, U]
          refine WS_seq (WS_block (WS_seq (WS_reg [] ?_))); simp [s1, s7, s2, h2, s4, h4, s6, h6, U]
          refine callK sl ?_; simp [s1, s7, s2, h2, s4, h4, s6, h6, U]
          refine WS_seq (WS_reg [] ?_); simp [s1, s7, s2, h2, s4, h4, s6, h6, U]
          refine callK ad ?_; simp [s1, s7, s2, h2, s4, h4, s6, h6, U]
          refine WS_seq (WS_reg [] ?_); simp [s1, s7, s2, h2, s4, h4, s6, h6, U]
          refine callK o1 ?_; simp [s1, s7, s2, h2, s4, h4, s6, h6, U]
          refine WS_seq (WS_seq (WS_reg [] ?_)); simp [s1, s7, s2, h2, s4, h4, s6, h6, U]
          refine WS_block ?_
          refine WS_loop (RtJ (RtRK s l (a : Int) (d : Int) k) 12 1 (m : Int) k) (fun S => nM 1 S - nM 12 S) ⟨0, _, _, rfl, by simp [s1], by omega, rfl, rfl, rfl, by simp [p0], by simp [RtRK, s7, s2, h2, s4, h4, s6, h6]⟩ ?_
          clear s1 s7 s2 h2 s4 h4 s6 h6
          rintro S' ⟨i, g10, g11, s12, s1, hik, s10, h10, s11, h11, s7, s2, h2, s4, h4, s6, h6⟩
          have d12 := nM_eq s12
          have d1 := nM_eq s1
          have lp : ∀ j, j ≤ k → zlen ((m : Int) ^ j) ≤ 2 ^ 20 := fun j hj => by
            have h1 := zlen_pow (m : Int) j
            have h2 := Nat.mul_le_mul (show j ≤ 64 by omega) hml
            omega
          by_cases hlt : i < k
          · have li := lp i (by omega)
            have mo := rmul (isZ_of li) ((isZ_of hml).mono (show K + 2 ≤ 2 ^ 20 by omega)) (by omega)
            rw [← Int.pow_succ] at mo
            have es := i64_succ i (by omega)
            refine WS_seq (WS_seq (WS_reg [] ?_)); simp [s12, s1, s10, h10, s11, h11, hlt, es]
            refine WS_cond (t := true) (by simp [s12, s1, s10, h10, s11, h11, hlt, es]) (fun _ => ?_) (fun h => by cases h)
            refine WS_skip ?_; simp [s12, s1, s10, h10, s11, h11, hlt, es]
            refine WS_seq (WS_block (WS_reg [] ?_)); simp [s12, s1, s10, h10, s11, h11, hlt, es]
            refine callK mo ?_; simp [s12, s1, s10, h10, s11, h11, hlt, es]
            refine WS_reg [] ?_; simp [s12, s1, s10, h10, s11, h11, hlt, es]
            refine ⟨⟨i + 1, g10, g11, by simp, by simp [s1], by omega, by simp [s10], by simp [h10], by simp [s11], by simp, by simp [RtRK, s7, s2, h2, s4, h4, s6, h6]⟩, ?_⟩
            show nM 1 _ - nM 12 _ < nM 1 S' - nM 12 S'
            rw [d1, d12, nM_eq (i := 1) (n := k) (by simp [s1]), nM_eq (i := 12) (n := i + 1) (by simp)]
            omega
          · obtain rfl : i = k := by omega
            have cq := rcmp (isZ_of (lp i (Nat.le_refl _))) (hv2.mono (show K ≤ 2 ^ 20 by omega)) (by omega)
            have ep : IntKind.i64.wrap ((d : Int) - 1) = (d : Int) - 1 := Go.IntWalk.i64_in _ (by omega)
            by_cases hle : m ^ i ≤ X
            · have hs : ((m : Int) ^ i - (X : Int)).sign ≤ 0 := by
                rw [← Int.natCast_pow, Int.sign_nonpos_iff]; omega
              refine WS_seq (WS_seq (WS_reg [] ?_)); simp [s12, s1, s10, h10, s11, h11, s7, s2, h2, s4, h4, s6, h6, hs, ep]
              refine WS_cond (t := false) (by simp [s12, s1, s10, h10, s11, h11, s7, s2, h2, s4, h4, s6, h6, hs, ep]) (fun h => by cases h) (fun _ => ?_)
              refine WS_exit ?_; simp [s12, s1, s10, h10, s11, h11, s7, s2, h2, s4, h4, s6, h6, hs, ep]
              refine WS_seq (WS_reg [] ?_); simp [s12, s1, s10, h10, s11, h11, s7, s2, h2, s4, h4, s6, h6, hs, ep]
              refine callK cq ?_; simp [s12, s1, s10, h10, s11, h11, s7, s2, h2, s4, h4, s6, h6, hs, ep]
              refine WS_cond (t := true) (by simp [s12, s1, s10, h10, s11, h11, s7, s2, h2, s4, h4, s6, h6, hs, ep]) (fun _ => ?_) (fun h => by cases h)
              refine WS_reg [] ?_; simp [s12, s1, s10, h10, s11, h11, s7, s2, h2, s4, h4, s6, h6, hs, ep]
              refine WS_reg [] ?_; simp [s12, s1, s10, h10, s11, h11, s7, s2, h2, s4, h4, s6, h6, hs, ep]
              refine ⟨⟨m, d, by omega, hle, by rw [hm, ← hP, show a + P + P = a + 2 * P by omega]; exact hXd', by simp [s1], by simp [RtRK, s7, s2, h2, s4, h4, s6, h6]⟩, ?_⟩
              rw [dm, nM1_eq (i := 7) (n := d) (by simp)]
              omega
            · have hs : ¬ ((m : Int) ^ i - (X : Int)).sign ≤ 0 := by
                rw [← Int.natCast_pow, Int.sign_nonpos_iff]; omega
              refine WS_seq (WS_seq (WS_reg [] ?_)); simp [s12, s1, s10, h10, s11, h11, s7, s2, h2, s4, h4, s6, h6, hs, ep]
              refine WS_cond (t := false) (by simp [s12, s1, s10, h10, s11, h11, s7, s2, h2, s4, h4, s6, h6, hs, ep]) (fun h => by cases h) (fun _ => ?_)
              refine WS_exit ?_; simp [s12, s1, s10, h10, s11, h11, s7, s2, h2, s4, h4, s6, h6, hs, ep]
              refine WS_seq (WS_reg [] ?_); simp [s12, s1, s10, h10, s11, h11, s7, s2, h2, s4, h4, s6, h6, hs, ep]
              refine callK cq ?_; simp [s12, s1, s10, h10, s11, h11, s7, s2, h2, s4, h4, s6, h6, hs, ep]
              refine WS_cond (t := false) (by simp [s12, s1, s10, h10, s11, h11, s7, s2, h2, s4, h4, s6, h6, hs, ep]) (fun h => by cases h) (fun _ => ?_)
              refine WS_skip ?_; simp [s12, s1, s10, h10, s11, h11, s7, s2, h2, s4, h4, s6, h6, hs, ep]
              refine WS_reg [] ?_; simp [s12, s1, s10, h10, s11, h11, s7, s2, h2, s4, h4, s6, h6, hs, ep]
              refine ⟨⟨a, d, by omega, haX, by rw [← hP, ← hm]; omega, by simp [s1], by simp [RtRK, s7, s2, h2, s4, h4, s6, h6]⟩, ?_⟩
              rw [dm, nM1_eq (i := 7) (n := d) (by simp)]
              omega

end Go.Vw
set_option linter.unusedVariables false
set_option linter.unusedSimpArgs false
namespace Go.Vw
open Go.Proofs

attribute [local simp] RunL_cons RunL_nil AOp_none AOp_some acK_v acK_call agK_tt agK_ff agK_tf agK_ft agK_tup agK_i aop aun St.ev St.heap St.put thenQ blockQ scopeQ upd_apply S0 argSlot lowV V.cells V.isAgg V.fits V.part partOk plains St.ret retSV svOf svsOf retQ retP retAll retOne uL_length uL_get? uL_get St.elems retH ownIdx ownAt
attribute [local simp] RunD_none RunD_some RunD_nil RunE_any acD_v acD_call agD_tt agD_ff agD_tf agD_ft agD_tup entsOf svref SO.opds SO.writes SO.makes callEnt pureSV pureOf RV.isOwn
attribute [local simp] abin_add abin_sub abin_mul abin_quo abin_rem abin_eql abin_neq abin_lss abin_leq abin_gtr abin_geq
attribute [local simp] uL_snoc uL_set uL_take uL_drop uL_append uL_replicate uL_nil
attribute [local simp] acK_callG acD_callG St.giv gsSV gvSV retEnts ownEnts SO.still
attribute [local simp] S0G argSlotG givSV retQG retPG retAllG retOneG HObj.width V.scalar trimQ V.byte
attribute [local simp] zv V.fits fillOk fillV Z_eq
end Go.Vw

