/- Fractions. -/
import Derived.Test.YtphcdigmgbhjcaaME
import Derived.Test.YtphcdigmgbhjcaaS3
import Derived.Test.YtphcdigmgbhjcaaS4
import Derived.Lib.Bytealg
import Derived.Test.YtphcdigmgbhjcaaMD
set_option linter.unusedVariables false
set_option linter.unusedSimpArgs false
namespace Go.Vw
open Go.Proofs

/-- A fraction's value: its upper number's sign and limbs, its lower number's limbs. -/
def rv (n : Bool) (l d : List Nat) : V := .agg [.b n, .sl none (uL l), .sl none (uL d)]
def qd (n : Nat) : List Nat := Nm.dig 18446744073709551616 n
/-- A fraction, plain. -/
def Q (q : Rat) : V := rv (zn q.num) (zl q.num) (qd q.den)
theorem Q_eq (q : Rat) : Q q = .agg [.b (zn q.num), .sl none (uL (zl q.num)), .sl none (uL (qd q.den))] := rfl

def rq (n : Bool) (l d : List Nat) : Rat := mkRat (zi n l) (Nm.val 18446744073709551616 d)
def IsQ (k : Nat) (v : V) (q : Rat) : Prop := ∃ n l d, v = rv n l d ∧ ZW k l ∧ ZW k d ∧ rq n l d = q

/-- A fraction's numbers have so many limbs at most. -/
structure QL (k : Nat) (q : Rat) : Prop where
  num : zlen q.num ≤ k
  den : zlen (q.den : Int) ≤ k
theorem QL.mono {k m : Nat} {q : Rat} (h : QL k q) (hk : k ≤ m) : QL m q := ⟨Nat.le_trans h.num hk, Nat.le_trans h.den hk⟩
theorem IsQ.mono {k m : Nat} {v : V} {q : Rat} (h : IsQ k v q) (hk : k ≤ m) : IsQ m v q := by
  obtain ⟨n, l, d, h1, h2, h3, h4⟩ := h
  exact ⟨n, l, d, h1, h2.mono hk, h3.mono hk, h4⟩
theorem isQ_rv {k : Nat} {n : Bool} {l d : List Nat} (h1 : ZW k l) (h2 : ZW k d) : IsQ k (rv n l d) (rq n l d) := ⟨n, l, d, rfl, h1, h2, rfl⟩
theorem qd_zl (n : Nat) : qd n = zl (n : Int) := by simp [qd, zl]
theorem isQ_Q {k : Nat} {q : Rat} (h : QL k q) : IsQ k (Q q) q := by
  refine ⟨zn q.num, zl q.num, qd q.den, rfl, ⟨zl_dl _, h.num⟩, ⟨Nm.dig_lt (by omega) _, by rw [qd_zl]; exact h.den⟩, ?_⟩
  rw [rq, zi_Z, qd, Nm.val_dig (by omega), Rat.mkRat_self]

theorem zlen_abs {x : Int} {y : Nat} (h : x.natAbs = y) : zlen (y : Int) = zlen x := by simp [zlen, zl, h]
theorem divInt_num {x y : Int} (hy : y ≠ 0) : (Rat.divInt x y).num = if y < 0 then -(x / (Int.gcd x y : Int)) else x / (Int.gcd x y : Int) := by
  rw [Rat.num_divInt, Int.gcd_comm y x]
  split
  · rw [Int.sign_eq_neg_one_of_neg (by omega), Int.neg_one_mul, Int.neg_ediv_of_dvd (Int.gcd_dvd_left _ _)]
  · rw [Int.sign_eq_one_of_pos (by omega), Int.one_mul]
theorem divInt_den {x y : Int} (hy : y ≠ 0) : (Rat.divInt x y).den = (y / (Int.gcd x y : Int)).natAbs := by
  rw [Rat.den_divInt, if_neg hy, Int.natAbs_ediv_of_dvd (Int.gcd_dvd_right _ _), Int.gcd_comm y x]
  rfl
theorem divInt_len {x y : Int} {k : Nat} (hx : zlen x ≤ k) (hy : zlen y ≤ k) : QL (k + 1) (Rat.divInt x y) := by
  by_cases h0 : y = 0
  · subst h0
    rw [Rat.divInt_zero]
    exact ⟨by rw [Rat.zero_num, zlen_zero]; omega, by have := zlen_one; rw [show ((0 : Rat).den : Int) = 1 by rfl]; omega⟩
  · refine ⟨?_, ?_⟩
    · rw [divInt_num h0]
      split
      · rw [zlen_neg]; have := zlen_ediv x (Int.gcd x y : Int); omega
      · have := zlen_ediv x (Int.gcd x y : Int); omega
    · rw [zlen_abs (divInt_den h0).symm]; have := zlen_ediv y (Int.gcd x y : Int); omega
theorem mkRat_len {x : Int} {d : Nat} {k : Nat} (hx : zlen x ≤ k) (hy : zlen (d : Int) ≤ k) : QL (k + 1) (mkRat x d) := by
  rw [← Rat.divInt_ofNat]; exact divInt_len hx hy
theorem IsQ.ql {k : Nat} {v : V} {q : Rat} (h : IsQ k v q) : QL (k + 1) q := by
  obtain ⟨n, l, d, rfl, h1, h2, rfl⟩ := h
  refine mkRat_len (isZ_zv (n := n) h1).zlen ?_
  have := (isZ_zv (n := false) h2).zlen
  rwa [show zi false d = (Nm.val 18446744073709551616 d : Int) by simp [zi]] at this

theorem gcd_ne {x y : Int} (h0 : y ≠ 0) : (Int.gcd x y : Int) ≠ 0 := by
  intro h
  have hg : Int.gcd x y = 0 := by omega
  exact h0 (Int.gcd_eq_zero_iff.1 hg).2
theorem zn_div {x y : Int} (h0 : y ≠ 0) : zn (y / (Int.gcd x y : Int)) = decide (y < 0) := by
  have g0 := gcd_ne (x := x) h0
  have gp : (0 : Int) < (Int.gcd x y : Int) := by omega
  rw [zn]
  congr 1
  have hm := Int.mul_ediv_cancel' (Int.gcd_dvd_right x y)
  apply propext
  constructor
  · intro h
    rw [← hm]
    exact Int.mul_neg_of_pos_of_neg gp h
  · intro h
    by_cases h' : y / (Int.gcd x y : Int) < 0
    · exact h'
    · have := Int.mul_nonneg (Int.le_of_lt gp) (Int.not_lt.1 h')
      omega

/-- What Make answers. -/
def makeR (x y : Int) : List RV := if y = 0 then [.pure (rv false [] []), .pure (.i .i64 3)] else [.pure (Q (Rat.divInt x y)), .pure (.i .i64 0)]

attribute [local simp] RunL_cons RunL_nil AOp_none AOp_some acK_v acK_call agK_tt agK_ff agK_tf agK_ft agK_tup agK_i aop aun St.ev St.heap St.put thenQ blockQ upd_apply S0 argSlot lowV V.cells V.isAgg V.fits V.part partOk plains St.ret retSV svOf svsOf retQ retP retAll retOne uL_length uL_get? uL_get St.elems retH ownIdx ownAt
attribute [local simp] RunD_none RunD_some RunD_nil RunE_any acD_v acD_call agD_tt agD_ff agD_tf agD_ft agD_tup entsOf svref SO.opds SO.writes SO.makes callEnt pureSV pureOf RV.isOwn
attribute [local simp] abin_add abin_sub abin_mul abin_quo abin_rem abin_eql abin_neq abin_lss abin_leq abin_gtr abin_geq
attribute [local simp] uL_snoc uL_set uL_take uL_drop uL_append uL_replicate uL_nil
attribute [local simp] acK_callG acD_callG St.giv gsSV gvSV retEnts ownEnts SO.still
attribute [local simp] S0G argSlotG givSV retQG retPG retAllG retOneG HObj.width V.scalar trimQ V.byte
attribute [local simp] zv V.fits fillOk fillV Z_eq rv Q_eq
set_option maxHeartbeats 1000000 in
theorem zmake {k : Nat} {v w : V} {x y : Int} (hv : IsZ k v x) (hw : IsZ k w y) (hk : k ≤ 2 ^ 33) : Spec Try.prog f_rat_Make [v, w] (· = makeR x y) := by
  have sg := zsign hw (by omega)
  have gd := zgcd hv hw hk
  have q1 := hv.zlen
  have q2 := hw.zlen
  have gl := gcd_len q1 q2
  have ex1 := zexact hv (isZ_of gl) (by omega)
  have ex2 := zexact hw (isZ_of gl) (by omega)
  have dv1 : x % (Int.gcd x y : Int) = 0 := Int.emod_eq_zero_of_dvd (Int.gcd_dvd_left _ _)
  have dv2 : y % (Int.gcd x y : Int) = 0 := Int.emod_eq_zero_of_dvd (Int.gcd_dvd_right _ _)
  have ql := zlen_ediv x (Int.gcd x y : Int)
  obtain ⟨n1, l1, rfl, h1, rfl⟩ := hv
  obtain ⟨n2, l2, rfl, h2, rfl⟩ := hw
  obtain ⟨x, hx⟩ : ∃ x, x = zi n1 l1 := ⟨_, rfl⟩
  obtain ⟨y, hy⟩ : ∃ x, x = zi n2 l2 := ⟨_, rfl⟩
  rw [← hx, ← hy] at gd gl ex1 ex2 dv1 dv2 ql ⊢
  rw [← hy] at sg q2
  rw [← hx] at q1
  refine spec_at Try.func102 ok_rat_Make [] rfl (by simp) ?_
  unfold sc_rat_Make
  by_cases h0 : y = 0
  · rw [makeR, if_pos h0]
    rw [h0, Int.sign_zero] at sg
    refine WS_seq (WS_reg [] ?_); simp [uL_nil]
    refine WS_seq (WS_seq (WS_reg [] ?_)); simp [uL_nil]
    refine callK sg ?_; simp [uL_nil]
    refine WS_cond (t := true) (by simp [uL_nil]) (fun _ => ?_) (fun h => by cases h)
    refine WS_seq (WS_reg [] ?_); simp [uL_nil]
    refine WS_ret ?_; simp [uL_nil]
  · have hs : y.sign ≠ 0 := by rw [Ne, Int.sign_eq_zero_iff_zero]; exact h0
    have g0 := gcd_ne (x := x) h0
    rw [exactR, if_neg g0, if_pos dv1] at ex1
    rw [exactR, if_neg g0, if_pos dv2] at ex2
    have hn := divInt_num (x := x) h0
    have hd := divInt_den (x := x) h0
    have hsg := zn_div (x := x) h0
    have ng := zneg (isZ_of (x := x / (Int.gcd x y : Int)) (k := k) (by omega)) (by omega)
    rw [makeR, if_neg h0]
    have hz : qd (Rat.divInt x y).den = zl (y / (Int.gcd x y : Int)) := by rw [qd, hd]; rfl
    rw [Q_eq, hz]
    obtain ⟨p, hp⟩ : ∃ p, p = (Rat.divInt x y).num := ⟨_, rfl⟩
    rw [← hp] at hn ⊢
    obtain ⟨g, hg⟩ : ∃ g : Int, g = (Int.gcd x y : Int) := ⟨_, rfl⟩
    rw [← hg] at gd ex1 ex2 hn hsg ng ⊢
    by_cases hneg : y < 0
    · rw [if_pos hneg] at hn
      rw [← hn] at ng
      rw [decide_eq_true hneg] at hsg
      refine WS_seq (WS_reg [] ?_); simp [hs, hsg]
      refine WS_seq (WS_seq (WS_reg [] ?_)); simp [hs, hsg]
      refine callK sg ?_; simp [hs, hsg]
      refine WS_cond (t := false) (by simp [hs, hsg]) (fun h => by cases h) (fun _ => ?_)
      refine WS_skip ?_; simp [hs, hsg]
      refine WS_seq (WS_reg [] ?_); simp [hs, hsg]
      refine callK gd ?_; simp [hs, hsg]
      refine WS_seq (WS_reg [] ?_); simp [hs, hsg]
      refine callK ex1 ?_; simp [hs, hsg]
      refine WS_seq (WS_reg [] ?_); simp [hs, hsg]
      refine callK ex2 ?_; simp [hs, hsg]
      refine WS_seq (WS_seq (WS_reg [] ?_)); simp [hs, hsg]
      refine WS_cond (t := true) (by simp [hs, hsg]) (fun _ => ?_) (fun h => by cases h)
      refine WS_reg [] ?_; simp [hs, hsg]
      refine callK ng ?_; simp [hs, hsg]
      refine WS_seq (WS_reg [] ?_); simp [hs, hsg]
      refine WS_ret ?_; simp [hs, hsg]
    · rw [if_neg hneg] at hn
      rw [decide_eq_false hneg] at hsg
      refine WS_seq (WS_reg [] ?_); simp [hs, hsg, hn]
      refine WS_seq (WS_seq (WS_reg [] ?_)); simp [hs, hsg, hn]
      refine callK sg ?_; simp [hs, hsg, hn]
      refine WS_cond (t := false) (by simp [hs, hsg, hn]) (fun h => by cases h) (fun _ => ?_)
      refine WS_skip ?_; simp [hs, hsg, hn]
      refine WS_seq (WS_reg [] ?_); simp [hs, hsg, hn]
      refine callK gd ?_; simp [hs, hsg, hn]
      refine WS_seq (WS_reg [] ?_); simp [hs, hsg, hn]
      refine callK ex1 ?_; simp [hs, hsg, hn]
      refine WS_seq (WS_reg [] ?_); simp [hs, hsg, hn]
      refine callK ex2 ?_; simp [hs, hsg, hn]
      refine WS_seq (WS_seq (WS_reg [] ?_)); simp [hs, hsg, hn]
      refine WS_cond (t := false) (by simp [hs, hsg, hn]) (fun h => by cases h) (fun _ => ?_)
      refine WS_skip ?_; simp [hs, hsg, hn]
      refine WS_seq (WS_reg [] ?_); simp [hs, hsg, hn]
      refine WS_ret ?_; simp [hs, hsg, hn]

set_option maxHeartbeats 1000000 in
theorem rmake {k : Nat} {v w : V} {x y : Int} (hv : IsZ k v x) (hw : IsZ k w y) (hk : k ≤ 2 ^ 33) : Spec Try.prog f_ref03_Make [v, w] (· = makeR x y) := by
  have sg := rsign hw (by omega)
  have gd := rgcd hv hw hk
  have q1 := hv.zlen
  have q2 := hw.zlen
  have gl := gcd_len q1 q2
  have ex1 := fun h => rdivz hv (isZ_of gl) (by omega) h
  have ex2 := fun h => rdivz hw (isZ_of gl) (by omega) h
  have ql := zlen_ediv x (Int.gcd x y : Int)
  obtain ⟨n1, l1, rfl, h1, rfl⟩ := hv
  obtain ⟨n2, l2, rfl, h2, rfl⟩ := hw
  obtain ⟨x, hx⟩ : ∃ x, x = zi n1 l1 := ⟨_, rfl⟩
  obtain ⟨y, hy⟩ : ∃ x, x = zi n2 l2 := ⟨_, rfl⟩
  rw [← hx, ← hy] at gd gl ex1 ex2 ql ⊢
  rw [← hy] at sg q2
  rw [← hx] at q1
  refine spec_at Try.func106 ok_ref03_Make [] rfl (by simp) ?_
  unfold sc_ref03_Make
  by_cases h0 : y = 0
  · rw [makeR, if_pos h0]
    rw [h0, Int.sign_zero] at sg
    refine WS_seq (WS_reg [] ?_); simp [uL_nil]
    refine WS_seq (WS_seq (WS_reg [] ?_)); simp [uL_nil]
    refine callK sg ?_; simp [uL_nil]
    refine WS_cond (t := true) (by simp [uL_nil]) (fun _ => ?_) (fun h => by cases h)
    refine WS_seq (WS_reg [] ?_); simp [uL_nil]
    refine WS_ret ?_; simp [uL_nil]
  · have hs : y.sign ≠ 0 := by rw [Ne, Int.sign_eq_zero_iff_zero]; exact h0
    have g0 := gcd_ne (x := x) h0
    have ex1 := ex1 g0
    have ex2 := ex2 g0
    have hn := divInt_num (x := x) h0
    have hd := divInt_den (x := x) h0
    have hsg := zn_div (x := x) h0
    have ng := rneg (isZ_of (x := x / (Int.gcd x y : Int)) (k := k) (by omega)) (by omega)
    rw [makeR, if_neg h0]
    have hz : qd (Rat.divInt x y).den = zl (y / (Int.gcd x y : Int)) := by rw [qd, hd]; rfl
    rw [Q_eq, hz]
    obtain ⟨p, hp⟩ : ∃ p, p = (Rat.divInt x y).num := ⟨_, rfl⟩
    rw [← hp] at hn ⊢
    obtain ⟨g, hg⟩ : ∃ g : Int, g = (Int.gcd x y : Int) := ⟨_, rfl⟩
    rw [← hg] at gd ex1 ex2 hn hsg ng ⊢
    by_cases hneg : y < 0
    · rw [if_pos hneg] at hn
      rw [← hn] at ng
      rw [decide_eq_true hneg] at hsg
      refine WS_seq (WS_reg [] ?_); simp [hs, hsg]
      refine WS_seq (WS_seq (WS_reg [] ?_)); simp [hs, hsg]
      refine callK sg ?_; simp [hs, hsg]
      refine WS_cond (t := false) (by simp [hs, hsg]) (fun h => by cases h) (fun _ => ?_)
      refine WS_skip ?_; simp [hs, hsg]
      refine WS_seq (WS_reg [] ?_); simp [hs, hsg]
      refine callK gd ?_; simp [hs, hsg]
      refine WS_seq (WS_reg [] ?_); simp [hs, hsg]
      refine callK ex1 ?_; simp [hs, hsg]
      refine WS_seq (WS_reg [] ?_); simp [hs, hsg]
      refine callK ex2 ?_; simp [hs, hsg]
      refine WS_seq (WS_seq (WS_reg [] ?_)); simp [hs, hsg]
      refine WS_cond (t := true) (by simp [hs, hsg]) (fun _ => ?_) (fun h => by cases h)
      refine WS_reg [] ?_; simp [hs, hsg]
      refine callK ng ?_; simp [hs, hsg]
      refine WS_seq (WS_reg [] ?_); simp [hs, hsg]
      refine WS_ret ?_; simp [hs, hsg]
    · rw [if_neg hneg] at hn
      rw [decide_eq_false hneg] at hsg
      refine WS_seq (WS_reg [] ?_); simp [hs, hsg, hn]
      refine WS_seq (WS_seq (WS_reg [] ?_)); simp [hs, hsg, hn]
      refine callK sg ?_; simp [hs, hsg, hn]
      refine WS_cond (t := false) (by simp [hs, hsg, hn]) (fun h => by cases h) (fun _ => ?_)
      refine WS_skip ?_; simp [hs, hsg, hn]
      refine WS_seq (WS_reg [] ?_); simp [hs, hsg, hn]
      refine callK gd ?_; simp [hs, hsg, hn]
      refine WS_seq (WS_reg [] ?_); simp [hs, hsg, hn]
      refine callK ex1 ?_; simp [hs, hsg, hn]
      refine WS_seq (WS_reg [] ?_); simp [hs, hsg, hn]
      refine callK ex2 ?_; simp [hs, hsg, hn]
      refine WS_seq (WS_seq (WS_reg [] ?_)); simp [hs, hsg, hn]
      refine WS_cond (t := false) (by simp [hs, hsg, hn]) (fun h => by cases h) (fun _ => ?_)
      refine WS_skip ?_; simp [hs, hsg, hn]
      refine WS_seq (WS_reg [] ?_); simp [hs, hsg, hn]
      refine WS_ret ?_; simp [hs, hsg, hn]

end Go.Vw
set_option linter.unusedVariables false
set_option linter.unusedSimpArgs false
namespace Go.Vw
open Go.Proofs

theorem qd_one : qd 1 = [1] := by rw [qd, Nm.dig_pos (by omega) (by omega), Nat.mod_eq_of_lt (by omega), Nat.div_eq_of_lt (by omega), Nm.dig_zero]
theorem qd_dl (n : Nat) : Nm.Dl 18446744073709551616 (qd n) := Nm.dig_lt (by omega) _
theorem qd_val (n : Nat) : Nm.val 18446744073709551616 (qd n) = n := Nm.val_dig (by omega) _
theorem qd_len (n : Nat) : (qd n).length = zlen (n : Int) := by rw [qd_zl]; rfl
theorem isQ_mk {k : Nat} {p : Int} {D : Nat} (hp : zlen p ≤ k) (hD : zlen (D : Int) ≤ k) : IsQ k (rv (zn p) (zl p) (qd D)) (mkRat p D) :=
  ⟨zn p, zl p, qd D, rfl, ⟨zl_dl _, hp⟩, ⟨qd_dl _, by rw [qd_len]; exact hD⟩, by rw [rq, zi_Z, qd_val]⟩
theorem Q_int (n : Int) : Q (n : Rat) = rv (zn n) (zl n) [1] := by
  show rv (zn n) (zl n) (qd 1) = _
  rw [qd_one]
def wholeR (q : Rat) : List RV := if q.den = 1 then [.pure (Z q.num), .pure (.b true)] else [.pure (Z 0), .pure (.b false)]
def divR (q r : Rat) : List RV := if r = 0 then [.pure (rv false [] []), .pure (.i .i64 3)] else [.pure (Q (q / r)), .pure (.i .i64 0)]

attribute [local simp] RunL_cons RunL_nil AOp_none AOp_some acK_v acK_call agK_tt agK_ff agK_tf agK_ft agK_tup agK_i aop aun St.ev St.heap St.put thenQ blockQ upd_apply S0 argSlot lowV V.cells V.isAgg V.fits V.part partOk plains St.ret retSV svOf svsOf retQ retP retAll retOne uL_length uL_get? uL_get St.elems retH ownIdx ownAt
attribute [local simp] RunD_none RunD_some RunD_nil RunE_any acD_v acD_call agD_tt agD_ff agD_tf agD_ft agD_tup entsOf svref SO.opds SO.writes SO.makes callEnt pureSV pureOf RV.isOwn
attribute [local simp] abin_add abin_sub abin_mul abin_quo abin_rem abin_eql abin_neq abin_lss abin_leq abin_gtr abin_geq
attribute [local simp] uL_snoc uL_set uL_take uL_drop uL_append uL_replicate uL_nil
attribute [local simp] acK_callG acD_callG St.giv gsSV gvSV retEnts ownEnts SO.still
attribute [local simp] S0G argSlotG givSV retQG retPG retAllG retOneG HObj.width V.scalar trimQ V.byte
attribute [local simp] zv V.fits fillOk fillV Z_eq rv Q_eq
theorem qden {k : Nat} {n : Bool} {l d : List Nat} (h : ZW k d) (hk : k ≤ 2 ^ 40) : Spec Try.prog f_rat_den [rv n l d] (· = [.pure (Z (Nm.val 18446744073709551616 d : Int))]) := by
  have nm := znorm (isZ_zv (n := false) h) hk
  rw [show zi false d = (Nm.val 18446744073709551616 d : Int) by simp [zi]] at nm
  refine spec_at Try.func160 ok_rat_den [] rfl (by simp) ?_
  unfold sc_rat_den
  refine WS_seq (WS_reg [] ?_); simp
  refine WS_seq (WS_reg [] ?_); simp
  refine callK nm ?_; simp
  refine WS_ret ?_; simp
theorem qden_Q {k : Nat} {q : Rat} (h : QL k q) (hk : k ≤ 2 ^ 40) : Spec Try.prog f_rat_den [Q q] (· = [.pure (Z (q.den : Int))]) := by
  have := qden (n := zn q.num) (l := zl q.num) (d := qd q.den) (k := k) ⟨qd_dl _, by rw [qd_len]; exact h.den⟩ hk
  rwa [qd_val] at this
theorem qof (n : Int) (h1 : -9223372036854775808 ≤ n) (h2 : n ≤ 9223372036854775807) : Spec Try.prog f_rat_Of [.i .i64 n] (· = [.pure (Q (n : Rat))]) := by
  have zo := zof n h1 h2
  rw [Q_int]
  have e1 : uL [1] = [V.i .u64 1] := rfl
  refine spec_at Try.func108 ok_rat_Of [] rfl (by simp) ?_
  unfold sc_rat_Of
  refine WS_seq (WS_reg [] ?_); simp [e1]
  refine WS_seq (WS_reg [] ?_); simp [e1]
  refine callK zo ?_; simp [e1]
  refine WS_ret ?_; simp [e1]
theorem qnorm {k : Nat} {v : V} {q : Rat} (hv : IsQ k v q) (hk : k ≤ 2 ^ 33) : Spec Try.prog f_rat_Norm [v] (· = [.pure (Q q)]) := by
  obtain ⟨n, l, d, rfl, h1, h2, rfl⟩ := hv
  have dn := qden (n := n) (l := l) h2 (by omega)
  have iz := (isZ_zv (n := false) h2).zlen
  rw [show zi false d = (Nm.val 18446744073709551616 d : Int) by simp [zi]] at iz
  have mk := zmake (isZ_zv (n := n) h1) (isZ_of iz) hk
  have o0 := qof 0 (by omega) (by omega)
  rw [Rat.intCast_zero] at o0
  have hq : rq n l d = mkRat (zi n l) (Nm.val 18446744073709551616 d) := rfl
  obtain ⟨D, hD⟩ : ∃ D, D = Nm.val 18446744073709551616 d := ⟨_, rfl⟩
  rw [← hD] at dn mk hq
  obtain ⟨r, hr⟩ : ∃ r, r = rq n l d := ⟨_, rfl⟩
  rw [← hr] at hq ⊢
  refine spec_at Try.func113 ok_rat_Norm [] rfl (by simp) ?_
  unfold sc_rat_Norm
  by_cases h0 : D = 0
  · subst h0
    rw [Rat.mkRat_zero] at hq
    rw [makeR, if_pos (by rfl)] at mk
    subst hq
    refine WS_seq (WS_reg [] ?_); simp
    refine WS_seq (WS_regD [] ?_); simp
    refine callD dn rfl ?_; simp
    refine callD mk rfl ?_; simp
    refine ⟨rfl, ?_⟩
    refine WS_seq (WS_seq (WS_reg [] ?_)); simp
    refine WS_cond (t := true) (by simp) (fun _ => ?_) (fun h => by cases h)
    refine WS_seq (WS_reg [] ?_); simp
    refine callK o0 ?_; simp
    refine WS_ret ?_; simp
  · rw [makeR, if_neg (by omega), Rat.divInt_ofNat, ← hq] at mk
    refine WS_seq (WS_reg [] ?_); simp
    refine WS_seq (WS_regD [] ?_); simp
    refine callD dn rfl ?_; simp
    refine callD mk rfl ?_; simp
    refine ⟨rfl, ?_⟩
    refine WS_seq (WS_seq (WS_reg [] ?_)); simp
    refine WS_cond (t := false) (by simp) (fun h => by cases h) (fun _ => ?_)
    refine WS_skip ?_; simp
    refine WS_seq (WS_reg [] ?_); simp
    refine WS_ret ?_; simp
theorem qnorm_Q {k : Nat} {q : Rat} (h : QL k q) (hk : k ≤ 2 ^ 33) : Spec Try.prog f_rat_Norm [Q q] (· = [.pure (Q q)]) := qnorm (isQ_Q h) hk
theorem qsign {k : Nat} {v : V} {q : Rat} (hv : IsQ k v q) (hk : k ≤ 2 ^ 33) : Spec Try.prog f_rat_Sign [v] (· = [.pure (.i .i64 q.num.sign)]) := by
  have nm := qnorm hv hk
  have ql := hv.ql
  have sg := zsign (isZ_of ql.num) (by omega)
  obtain ⟨n, l, d, rfl, h1, h2, hq⟩ := hv
  refine spec_at Try.func118 ok_rat_Sign [] rfl (by simp) ?_
  unfold sc_rat_Sign
  refine WS_seq (WS_reg [] ?_); simp
  refine WS_seq (WS_reg [] ?_); simp
  refine callK nm ?_; simp
  refine callK sg ?_; simp
  refine WS_ret ?_; simp

theorem nmul_Q {k : Nat} {q r : Rat} (hq : QL k q) (hr : QL k r) (hk : k ≤ 2 ^ 28) : Spec Try.prog f_nat_Mul [U (qd q.den), U (qd r.den)] (· = [.pure (U (qd (q.den * r.den)))]) := by
  have h := nmul_spec (max (Nm.trim (qd q.den)).length (Nm.trim (qd r.den)).length) (qd q.den) (qd r.den) (qd_dl _) (qd_dl _) (by rw [qd_len]; have := hq.den; omega) (by rw [qd_len]; have := hr.den; omega) (by omega) (by omega)
  rw [qd_val, qd_val] at h
  exact h
theorem qmul_mk (q r : Rat) : mkRat (q.num * r.num) (q.den * r.den) = q * r := by
  rw [← Rat.mkRat_mul_mkRat, Rat.mkRat_self, Rat.mkRat_self]
theorem natlen_mul (a b : Nat) : zlen ((a * b : Nat) : Int) ≤ zlen (a : Int) + zlen (b : Int) := by rw [Int.natCast_mul]; exact zlen_mul _ _

theorem qmul {k : Nat} {v w : V} {q r : Rat} (hv : IsQ k v q) (hw : IsQ k w r) (hk : k ≤ 2 ^ 26) : Spec Try.prog f_rat_Mul [v, w] (· = [.pure (Q (q * r))]) := by
  have n1 := qnorm hv (by omega)
  have n2 := qnorm hw (by omega)
  have q1 := hv.ql
  have q2 := hw.ql
  have mu := zmul (isZ_of q1.num) (isZ_of q2.num) (by omega)
  have md := nmul_Q q1 q2 (by omega)
  have nm := qnorm (isQ_mk (k := 2 * k + 2) (p := q.num * r.num) (D := q.den * r.den) (by have := zlen_mul q.num r.num; have := q1.num; have := q2.num; omega) (by have := natlen_mul q.den r.den; have := q1.den; have := q2.den; omega)) (by omega)
  rw [qmul_mk] at nm
  obtain ⟨n1', l1, d1, rfl, h1, h1', _⟩ := hv
  obtain ⟨n2', l2, d2, rfl, h2, h2', _⟩ := hw
  refine spec_at Try.func114 ok_rat_Mul [] rfl (by simp) ?_
  unfold sc_rat_Mul
  refine WS_seq (WS_reg [] ?_); simp [U]
  refine WS_seq (WS_regD [] ?_); simp [U]
  refine callD n1 rfl ?_; simp [U]
  refine callD n2 rfl ?_; simp [U]
  refine ⟨rfl, ?_⟩
  refine WS_seq (WS_regD [] ?_); simp [U]
  refine callD mu rfl ?_; simp [U]
  refine callD md rfl ?_; simp [U]
  refine callD nm rfl ?_; simp [U]
  refine ⟨rfl, ?_⟩
  refine WS_ret ?_; simp [U]

theorem qdiv_mk {q r : Rat} : Rat.divInt (q.num * r.den) (r.num * q.den) = q / r := by
  rw [Int.mul_comm r.num, ← Rat.divInt_mul_divInt, Rat.num_divInt_den, Rat.div_def, ← Rat.inv_divInt, Rat.num_divInt_den]
theorem qdiv {k : Nat} {v w : V} {q r : Rat} (hv : IsQ k v q) (hw : IsQ k w r) (hk : k ≤ 2 ^ 26) : Spec Try.prog f_rat_Div [v, w] (· = divR q r) := by
  have n1 := qnorm hv (by omega)
  have n2 := qnorm hw (by omega)
  have q1 := hv.ql
  have q2 := hw.ql
  have d1 := qden_Q q1 (by omega)
  have d2 := qden_Q q2 (by omega)
  have m1 := zmul (isZ_of q1.num) (isZ_of q2.den) (by omega)
  have m2 := zmul (isZ_of q2.num) (isZ_of q1.den) (by omega)
  have mk := zmake (isZ_of (k := 2 * k + 2) (x := q.num * (r.den : Int)) (by have := zlen_mul q.num r.den; have := q1.num; have := q2.den; omega)) (isZ_of (k := 2 * k + 2) (x := r.num * (q.den : Int)) (by have := zlen_mul r.num q.den; have := q2.num; have := q1.den; omega)) (by omega)
  have hR : makeR (q.num * (r.den : Int)) (r.num * (q.den : Int)) = divR q r := by
    have hd : (q.den : Int) ≠ 0 := by have := q.den_nz; omega
    by_cases h0 : r = 0
    · subst h0
      rw [makeR, if_pos (by rw [Rat.zero_num, Int.zero_mul]), divR, if_pos rfl]
    · rw [makeR, if_neg (by rw [Int.mul_eq_zero]; rintro (h | h); exact h0 (Rat.num_eq_zero.1 h); exact hd h), divR, if_neg h0, qdiv_mk]
  rw [hR] at mk
  have hx : ∃ p e, divR q r = [.pure p, .pure (.i .i64 e)] ∧ ∃ a b c, p = rv a b c := by
    unfold divR
    split
    · exact ⟨_, _, rfl, _, _, _, rfl⟩
    · exact ⟨_, _, rfl, _, _, _, rfl⟩
  obtain ⟨p, e, hp, a, b, c, rfl⟩ := hx
  rw [hp] at mk ⊢
  obtain ⟨n1', l1, d1', rfl, h1, h1', _⟩ := hv
  obtain ⟨n2', l2, d2', rfl, h2, h2', _⟩ := hw
  refine spec_at Try.func121 ok_rat_Div [] rfl (by simp) ?_
  unfold sc_rat_Div
  refine WS_seq (WS_reg [] ?_); simp
  refine WS_seq (WS_regD [] ?_); simp
  refine callD n1 rfl ?_; simp
  refine callD n2 rfl ?_; simp
  refine ⟨rfl, ?_⟩
  refine WS_seq (WS_regD [] ?_); simp
  refine callD d2 rfl ?_; simp
  refine callD m1 rfl ?_; simp
  refine callD d1 rfl ?_; simp
  refine callD m2 rfl ?_; simp
  refine callD mk rfl ?_; simp
  refine ⟨rfl, ?_⟩
  refine WS_ret ?_; simp
theorem cmpN_one {n : Nat} (h : n ≠ 0) : (Nm.cmpN n 1 = 0) ↔ n = 1 := by
  unfold Nm.cmpN
  constructor
  · intro h; split at h
    · omega
    · split at h <;> omega
  · rintro rfl; simp
theorem qwhole {k : Nat} {v : V} {q : Rat} (hv : IsQ k v q) (hk : k ≤ 2 ^ 33) : Spec Try.prog f_rat_Whole [v] (· = wholeR q) := by
  have nm := qnorm hv hk
  have ql := hv.ql
  have cm := ncmp_spec (qd q.den) [1] (qd_dl _) (by intro x hx; simp at hx; omega) (by rw [qd_len]; have := ql.den; omega) (by simp)
  rw [qd_val, show Nm.val 18446744073709551616 [1] = 1 by simp [Nm.val]] at cm
  have c1 := cmpN_one q.den_nz
  obtain ⟨n, l, d, rfl, h1, h2, _⟩ := hv
  have e1 : U [1] = .sl none [V.i .u64 1] := rfl
  rw [e1] at cm
  refine spec_at Try.func115 ok_rat_Whole [] rfl (by simp) ?_
  unfold sc_rat_Whole
  by_cases h : q.den = 1
  · rw [wholeR, if_pos h]
    have c2 := c1.2 h
    rw [c2] at cm
    refine WS_seq (WS_reg [] ?_); simp [U]
    refine WS_seq (WS_reg [] ?_); simp [U]
    refine callK nm ?_; simp [U]
    refine WS_seq (WS_seq (WS_reg [] ?_)); simp [U]
    refine callK cm ?_; simp [U]
    refine WS_cond (t := false) (by simp [U]) (fun h => by cases h) (fun _ => ?_)
    refine WS_skip ?_; simp [U]
    refine WS_seq (WS_reg [] ?_); simp [U]
    refine WS_ret ?_; simp [U]
  · rw [wholeR, if_neg h]
    have c2 : ¬ Nm.cmpN q.den 1 = 0 := fun e => h (c1.1 e)
    refine WS_seq (WS_reg [] ?_); simp [U, c2, Z_zero]
    refine WS_seq (WS_reg [] ?_); simp [U, c2, Z_zero]
    refine callK nm ?_; simp [U, c2, Z_zero]
    refine WS_seq (WS_seq (WS_reg [] ?_)); simp [U, c2, Z_zero]
    refine callK cm ?_; simp [U, c2, Z_zero]
    refine WS_cond (t := true) (by simp [U, c2, Z_zero]) (fun _ => ?_) (fun h => by cases h)
    refine WS_seq (WS_reg [] ?_); simp [U, c2, Z_zero]
    refine WS_ret ?_; simp [U, c2, Z_zero]

end Go.Vw
set_option linter.unusedVariables false
set_option linter.unusedSimpArgs false
namespace Go.Vw
open Go.Proofs

theorem qadd_mk (q r : Rat) : mkRat (q.num * r.den + r.num * q.den) (q.den * r.den) = q + r := by
  rw [← Rat.mkRat_add_mkRat _ _ q.den_nz r.den_nz, Rat.mkRat_self, Rat.mkRat_self]
theorem qsub_mk (q r : Rat) : mkRat (q.num * r.den - r.num * q.den) (q.den * r.den) = q - r := by
  rw [Rat.sub_eq_add_neg, ← qadd_mk, Rat.neg_num, Rat.neg_den, Int.neg_mul, Int.sub_eq_add_neg]

attribute [local simp] RunL_cons RunL_nil AOp_none AOp_some acK_v acK_call agK_tt agK_ff agK_tf agK_ft agK_tup agK_i aop aun St.ev St.heap St.put thenQ blockQ upd_apply S0 argSlot lowV V.cells V.isAgg V.fits V.part partOk plains St.ret retSV svOf svsOf retQ retP retAll retOne uL_length uL_get? uL_get St.elems retH ownIdx ownAt
attribute [local simp] RunD_none RunD_some RunD_nil RunE_any acD_v acD_call agD_tt agD_ff agD_tf agD_ft agD_tup entsOf svref SO.opds SO.writes SO.makes callEnt pureSV pureOf RV.isOwn
attribute [local simp] abin_add abin_sub abin_mul abin_quo abin_rem abin_eql abin_neq abin_lss abin_leq abin_gtr abin_geq
attribute [local simp] uL_snoc uL_set uL_take uL_drop uL_append uL_replicate uL_nil
attribute [local simp] acK_callG acD_callG St.giv gsSV gvSV retEnts ownEnts SO.still
attribute [local simp] S0G argSlotG givSV retQG retPG retAllG retOneG HObj.width V.scalar trimQ V.byte
attribute [local simp] zv V.fits fillOk fillV Z_eq rv Q_eq
theorem qjoin1 {k : Nat} {a b : Int} (ha : zlen a ≤ k) (hb : zlen b ≤ k) (hk : k ≤ 2 ^ 37) (m : Bool) : Spec Try.prog f_rat_joined_1 [Z a, Z b, .ref none (.b m)] (· = [.pure (Z (if m then a - b else a + b))]) := by
  have ad := zadd (isZ_of ha) (isZ_of hb) hk
  have sb := zsub (isZ_of ha) (isZ_of hb) hk
  refine spec_at Try.func174 ok_rat_joined_1 [] rfl (by simp) ?_
  unfold sc_rat_joined_1
  cases m with
  | true =>
    refine WS_seq (WS_reg [] ?_); simp
    refine WS_seq (WS_seq (WS_reg [] ?_)); simp
    refine WS_cond (t := true) (by simp) (fun _ => ?_) (fun h => by cases h)
    refine WS_seq (WS_reg [] ?_); simp
    refine callK sb ?_; simp
    refine WS_ret ?_; simp
  | false =>
    refine WS_seq (WS_reg [] ?_); simp
    refine WS_seq (WS_seq (WS_reg [] ?_)); simp
    refine WS_cond (t := false) (by simp) (fun h => by cases h) (fun _ => ?_)
    refine WS_skip ?_; simp
    refine WS_seq (WS_reg [] ?_); simp
    refine callK ad ?_; simp
    refine WS_ret ?_; simp

theorem qcrossed {k : Nat} {v w : V} {q r : Rat} (hv : IsQ k v q) (hw : IsQ k w r) (hk : k ≤ 2 ^ 26) (f : Nat) (caps : List V) (c : Int)
    (hf : Spec Try.prog f (Z (q.num * (r.den : Int)) :: Z (r.num * (q.den : Int)) :: caps) (· = [.pure (Z c)])) (hc : zlen c ≤ 2 * k + 3) :
    Spec Try.prog f_rat_crossed [v, w, .clo f caps] (· = [.pure (Q (mkRat c (q.den * r.den)))]) := by
  have n1 := qnorm hv (by omega)
  have n2 := qnorm hw (by omega)
  have q1 := hv.ql
  have q2 := hw.ql
  have d1 := qden_Q q1 (by omega)
  have d2 := qden_Q q2 (by omega)
  have m1 := zmul (isZ_of q1.num) (isZ_of q2.den) (by omega)
  have m2 := zmul (isZ_of q2.num) (isZ_of q1.den) (by omega)
  have md := nmul_Q q1 q2 (by omega)
  have nm := qnorm (isQ_mk (k := 2 * k + 3) (p := c) (D := q.den * r.den) hc (by have := natlen_mul q.den r.den; have := q1.den; have := q2.den; omega)) (by omega)
  obtain ⟨n1', l1, d1', rfl, h1, h1', _⟩ := hv
  obtain ⟨n2', l2, d2', rfl, h2, h2', _⟩ := hw
  refine spec_at Try.func173 ok_rat_crossed [] rfl (by simp) ?_
  unfold sc_rat_crossed
  refine WS_seq (WS_reg [] ?_); simp [U]
  refine WS_seq (WS_regD [] ?_); simp [U]
  refine callD n1 rfl ?_; simp [U]
  refine callD n2 rfl ?_; simp [U]
  refine ⟨rfl, ?_⟩
  refine WS_seq (WS_regD [] ?_); simp [U]
  refine callD d2 rfl ?_; simp [U]
  refine callD m1 rfl ?_; simp [U]
  refine callD d1 rfl ?_; simp [U]
  refine callD m2 rfl ?_; simp [U]
  refine callD hf rfl ?_; simp [U]
  refine ⟨rfl, ?_⟩
  refine WS_seq (WS_regD [] ?_); simp [U]
  refine callD md rfl ?_; simp [U]
  refine callD nm rfl ?_; simp [U]
  refine ⟨rfl, ?_⟩
  refine WS_ret ?_; simp [U]

theorem qjoined {k : Nat} {v w : V} {q r : Rat} (hv : IsQ k v q) (hw : IsQ k w r) (hk : k ≤ 2 ^ 26) (m : Bool) : Spec Try.prog f_rat_joined [v, w, .b m] (· = [.pure (Q (if m then q - r else q + r))]) := by
  have q1 := hv.ql
  have q2 := hw.ql
  have l1 : zlen (q.num * (r.den : Int)) ≤ 2 * k + 2 := by have := zlen_mul q.num r.den; have := q1.num; have := q2.den; omega
  have l2 : zlen (r.num * (q.den : Int)) ≤ 2 * k + 2 := by have := zlen_mul r.num q.den; have := q2.num; have := q1.den; omega
  have cr := qcrossed hv hw hk f_rat_joined_1 [.ref none (.b m)] _ (qjoin1 l1 l2 (by omega) m) (by
    have a1 := zlen_add (q.num * (r.den : Int)) (r.num * (q.den : Int))
    have a2 := zlen_sub (q.num * (r.den : Int)) (r.num * (q.den : Int))
    split <;> omega)
  have e : mkRat (if m = true then q.num * (r.den : Int) - r.num * (q.den : Int) else q.num * (r.den : Int) + r.num * (q.den : Int)) (q.den * r.den) = if m = true then q - r else q + r := by
    split
    · exact qsub_mk q r
    · exact qadd_mk q r
  rw [e] at cr
  obtain ⟨z, hz⟩ : ∃ z, z = (if m = true then q - r else q + r) := ⟨_, rfl⟩
  rw [← hz] at cr ⊢
  obtain ⟨n1', l1, d1', rfl, h1, h1', _⟩ := hv
  obtain ⟨n2', l2, d2', rfl, h2, h2', _⟩ := hw
  refine spec_at Try.func161 ok_rat_joined [] rfl (by simp) ?_
  unfold sc_rat_joined
  refine WS_seq (WS_reg [] ?_); simp
  refine WS_frz 5 5 none ?_
  simp [frzQ]
  refine WS_seq (WS_reg [] ?_); simp
  refine callK cr ?_; simp
  refine WS_ret ?_; simp

theorem qadd {k : Nat} {v w : V} {q r : Rat} (hv : IsQ k v q) (hw : IsQ k w r) (hk : k ≤ 2 ^ 26) : Spec Try.prog f_rat_Add [v, w] (· = [.pure (Q (q + r))]) := by
  have jn := qjoined hv hw hk false
  rw [if_neg (by simp)] at jn
  obtain ⟨n1', l1, d1', rfl, h1, h1', _⟩ := hv
  obtain ⟨n2', l2, d2', rfl, h2, h2', _⟩ := hw
  refine spec_at Try.func120 ok_rat_Add [] rfl (by simp) ?_
  unfold sc_rat_Add
  refine WS_seq (WS_reg [] ?_); simp
  refine WS_seq (WS_reg [] ?_); simp
  refine callK jn ?_; simp
  refine WS_ret ?_; simp
theorem qsub {k : Nat} {v w : V} {q r : Rat} (hv : IsQ k v q) (hw : IsQ k w r) (hk : k ≤ 2 ^ 26) : Spec Try.prog f_rat_Sub [v, w] (· = [.pure (Q (q - r))]) := by
  have jn := qjoined hv hw hk true
  rw [if_pos rfl] at jn
  obtain ⟨n1', l1, d1', rfl, h1, h1', _⟩ := hv
  obtain ⟨n2', l2, d2', rfl, h2, h2', _⟩ := hw
  refine spec_at Try.func119 ok_rat_Sub [] rfl (by simp) ?_
  unfold sc_rat_Sub
  refine WS_seq (WS_reg [] ?_); simp
  refine WS_seq (WS_reg [] ?_); simp
  refine callK jn ?_; simp
  refine WS_ret ?_; simp

theorem ql_add {k : Nat} {q r : Rat} (h1 : QL k q) (h2 : QL k r) : QL (2 * k + 2) (q + r) := by
  rw [← qadd_mk]
  refine mkRat_len (k := 2 * k + 1) ?_ ?_
  · have a1 := zlen_add (q.num * (r.den : Int)) (r.num * (q.den : Int))
    have := zlen_mul q.num r.den
    have := zlen_mul r.num q.den
    have := h1.num; have := h1.den; have := h2.num; have := h2.den
    omega
  · have := natlen_mul q.den r.den; have := h1.den; have := h2.den; omega
theorem ql_sub {k : Nat} {q r : Rat} (h1 : QL k q) (h2 : QL k r) : QL (2 * k + 2) (q - r) := by
  rw [← qsub_mk]
  refine mkRat_len (k := 2 * k + 1) ?_ ?_
  · have a1 := zlen_sub (q.num * (r.den : Int)) (r.num * (q.den : Int))
    have := zlen_mul q.num r.den
    have := zlen_mul r.num q.den
    have := h1.num; have := h1.den; have := h2.num; have := h2.den
    omega
  · have := natlen_mul q.den r.den; have := h1.den; have := h2.den; omega
theorem ql_mul {k : Nat} {q r : Rat} (h1 : QL k q) (h2 : QL k r) : QL (2 * k + 1) (q * r) := by
  rw [← qmul_mk]
  refine mkRat_len (k := 2 * k) ?_ ?_
  · have := zlen_mul q.num r.num; have := h1.num; have := h2.num; omega
  · have := natlen_mul q.den r.den; have := h1.den; have := h2.den; omega
theorem ql_div {k : Nat} {q r : Rat} (h1 : QL k q) (h2 : QL k r) : QL (2 * k + 1) (q / r) := by
  rw [← qdiv_mk]
  refine divInt_len (k := 2 * k) ?_ ?_
  · have := zlen_mul q.num r.den; have := h1.num; have := h2.den; omega
  · have := zlen_mul r.num q.den; have := h1.den; have := h2.num; omega

theorem qcmp {k : Nat} {v w : V} {q r : Rat} (hv : IsQ k v q) (hw : IsQ k w r) (hk : k ≤ 2 ^ 26) : Spec Try.prog f_rat_Cmp [v, w] (· = [.pure (.i .i64 (q - r).num.sign)]) := by
  have sb := qsub hv hw hk
  have sg := qsign (isQ_Q (ql_sub hv.ql hw.ql)) (by omega)
  obtain ⟨n1', l1, d1', rfl, h1, h1', _⟩ := hv
  obtain ⟨n2', l2, d2', rfl, h2, h2', _⟩ := hw
  refine spec_at Try.func117 ok_rat_Cmp [] rfl (by simp) ?_
  unfold sc_rat_Cmp
  refine WS_seq (WS_reg [] ?_); simp
  refine WS_seq (WS_reg [] ?_); simp
  refine callK sb ?_; simp
  refine callK sg ?_; simp
  refine WS_ret ?_; simp

/-- Two plain fractions are the same. -/
theorem qsame (n : Bool) (l d : List Nat) (hl : l.length ≤ 2 ^ 40) (hd : d.length ≤ 2 ^ 40) : Spec Try.prog f_ref03_Same [rv n l d, rv n l d] (· = [.pure (.b true)]) := by
  have s2 := rsame_spec l hl
  have s3 := rsame_spec d hd
  have sm : Spec Try.prog f_ref02_Same [zv n l, zv n l] (· = [.pure (.b true)]) := by
    refine spec_at Try.func116 ok_ref02_Same [] rfl (by simp) ?_
    unfold sc_ref02_Same
    refine WS_seq (WS_reg [] ?_); simp [U]
    refine WS_seq (WS_reg [] ?_); simp [U]
    refine callK s2 ?_; simp [U]
    refine WS_ret ?_; simp [U]
  refine spec_at Try.func103 ok_ref03_Same [] rfl (by simp) ?_
  unfold sc_ref03_Same
  refine WS_seq (WS_reg [] ?_); simp [U]
  refine WS_seq (WS_reg [] ?_); simp [U]
  refine callK sm ?_; simp [U]
  refine callK s3 ?_; simp [U]
  refine WS_ret ?_; simp [U]
theorem rof3 (n : Int) (h1 : -9223372036854775808 ≤ n) (h2 : n ≤ 9223372036854775807) : Spec Try.prog f_ref03_Of [.i .i64 n] (· = [.pure (Q (n : Rat))]) := by
  have zo := rof n h1 h2
  rw [Q_int]
  have e1 : uL [1] = [V.i .u64 1] := rfl
  refine spec_at Try.func109 ok_ref03_Of [] rfl (by simp) ?_
  unfold sc_ref03_Of
  refine WS_seq (WS_reg [] ?_); simp [e1]
  refine WS_seq (WS_reg [] ?_); simp [e1]
  refine callK zo ?_; simp [e1]
  refine WS_ret ?_; simp [e1]

end Go.Vw
set_option linter.unusedVariables false
set_option linter.unusedSimpArgs false
namespace Go.Vw
open Go.Proofs

/-- Where the first stroke stands, or -1. -/
def strokeAt (l : List UInt8) : Int := Go.Lib.indexByte l 47
theorem strokeAt_nil : strokeAt [] = -1 := rfl
theorem strokeAt_cons (c : UInt8) (l : List UInt8) : strokeAt (c :: l) = if c = 47 then 0 else if strokeAt l = -1 then -1 else strokeAt l + 1 := by
  unfold strokeAt
  rw [Go.Lib.indexByte]
  by_cases h : c = 47
  · simp [h]
  · simp [h]
theorem strokeAt_facts : ∀ l : List UInt8, strokeAt l = -1 ∧ (47 : UInt8) ∉ l ∨ ∃ (a b : List UInt8), l = a ++ 47 :: b ∧ (47 : UInt8) ∉ a ∧ strokeAt l = (a.length : Int)
  | [] => .inl ⟨rfl, by simp⟩
  | c :: l => by
    rw [strokeAt_cons]
    by_cases h : c = 47
    · subst h
      exact .inr ⟨[], l, rfl, by simp, by simp⟩
    · rw [if_neg h]
      rcases strokeAt_facts l with ⟨h1, h2⟩ | ⟨a, b, h1, h2, h3⟩
      · rw [if_pos h1]
        exact .inl ⟨rfl, by simp [h2, Ne.symm h]⟩
      · rw [if_neg (by omega)]
        refine .inr ⟨c :: a, b, by rw [h1]; rfl, by simp [h2, Ne.symm h], by rw [h3]; simp⟩

theorem spec_extern_si {P : Program} {f : FuncId} {fn : Func} {e : Array Value → Sem Value} (hf : P.funcs[f]? = some fn) (hname : (fn.name == "runtime.NumGoroutine") = false)
    (hb : fn.body.isNone = true) (hn : Extern.findNext fn = none) (he : Extern.find fn = some e) (s : ByteArray) (k : IntKind) (c : Int) (k' : IntKind) (r : Int)
    (hrun : ∀ w, (e #[.string s, .int k c]).run P w = .ok (.int k' r) w) : Spec P f [.s s, .i k c] (· = [.pure (.i k' r)]) := by
  intro w ok vals hok hrel
  have hv : vals = #[.string s, .int k c] := by
    obtain ⟨hs, hr⟩ := hrel
    have h0 := hr 0 (by simp)
    have h1 := hr 1 (by simp)
    match vals, hs with
    | ⟨[a, b]⟩, _ =>
      simp at h0 h1
      cases h0
      cases h1
      rfl
  subst hv
  refine .inr ⟨.int k' r, ?_, [.pure (.i k' r)], [.int k' r], rfl, rfl, Go.RowKit.Below.refl _ _, ⟨by simp, fun j rv hj => ?_, fun j k x y b hj hk hx => ?_⟩⟩
  · rw [run_callFunc_extern hf hname hb hn he, hrun]; rfl
  · cases j with
    | zero =>
      simp at hj
      subst hj
      exact .i _ _
    | succ j => simp at hj
  · cases j with
    | zero =>
      simp at hj
      subst hj
      cases hx
    | succ j => simp at hj

theorem indexByteString_spec (l : List UInt8) : Spec Try.prog 185 [tx l, .i .u8 47] (· = [.pure (.i .i64 (strokeAt l))]) :=
  spec_extern_si (P := Try.prog) (f := 185) (fn := Try.f185) Try.func185 (by kernel_rfl) (by kernel_rfl) (by kernel_rfl) (by kernel_rfl) _ _ _ _ _ (fun w => Go.Lib.run_indexByteString _ 47 w)

attribute [local simp] RunL_cons RunL_nil AOp_none AOp_some acK_v acK_call agK_tt agK_ff agK_tf agK_ft agK_tup agK_i aop aun St.ev St.heap St.put thenQ blockQ upd_apply S0 argSlot lowV V.cells V.isAgg V.fits V.part partOk plains St.ret retSV svOf svsOf retQ retP retAll retOne uL_length uL_get? uL_get St.elems retH ownIdx ownAt
attribute [local simp] RunD_none RunD_some RunD_nil RunE_any acD_v acD_call agD_tt agD_ff agD_tf agD_ft agD_tup entsOf svref SO.opds SO.writes SO.makes callEnt pureSV pureOf RV.isOwn
attribute [local simp] abin_add abin_sub abin_mul abin_quo abin_rem abin_eql abin_neq abin_lss abin_leq abin_gtr abin_geq
attribute [local simp] uL_snoc uL_set uL_take uL_drop uL_append uL_replicate uL_nil
attribute [local simp] acK_callG acD_callG St.giv gsSV gvSV retEnts ownEnts SO.still
attribute [local simp] S0G argSlotG givSV retQG retPG retAllG retOneG HObj.width V.scalar trimQ V.byte
attribute [local simp] zv V.fits fillOk fillV Z_eq rv Q_eq
theorem index1_spec (l : List UInt8) (hl : l.length ≤ 2 ^ 40) : Spec Try.prog f_stringslite_Index [tx l, tx [47]] (· = [.pure (.i .i64 (strokeAt l))]) := by
  have ib : Spec Try.prog f_stringslite_IndexByte [tx l, .i .u8 47] (· = [.pure (.i .i64 (strokeAt l))]) := by
    have ib := indexByteString_spec l
    refine spec_at Try.func181 ok_stringslite_IndexByte [] rfl (by simp) ?_
    unfold sc_stringslite_IndexByte
    refine WS_seq (WS_reg [] ?_); simp [tx]
    refine WS_seq (WS_reg [] ?_); simp [tx]
    refine callK ib ?_; simp [tx]
    refine WS_ret ?_; simp [tx]
  refine spec_at Try.func178 ok_stringslite_Index [] rfl (by simp) ?_
  unfold sc_stringslite_Index
  by_cases h : [47] = l
  · subst h
    have e : strokeAt [47] = 0 := rfl
    rw [e]
    refine WS_seq (WS_reg [] ?_); simp [tx, bmk_size, abin_seql, bmk_list]
    refine WS_seq (WS_reg [] ?_); simp [tx, bmk_size, abin_seql, bmk_list]
    refine WS_seq (WS_block (WS_seq (WS_reg [] ?_))); simp [tx, bmk_size, abin_seql, bmk_list]
    refine WS_cond (t := true) (by simp [tx, bmk_size, abin_seql, bmk_list]) (fun _ => ?_) (fun h => by cases h)
    refine WS_seq (WS_reg [] ?_); simp [tx, bmk_size, abin_seql, bmk_list]
    refine WS_ret ?_; simp [tx, bmk_size, abin_seql, bmk_list]
  · have h' : ([47] == l) = false := by simpa using h
    refine WS_seq (WS_reg [] ?_); simp [tx, bmk_size, abin_seql, bmk_list, h']
    refine WS_seq (WS_reg [] ?_); simp [tx, bmk_size, abin_seql, bmk_list, h']
    refine WS_seq (WS_block (WS_seq (WS_reg [] ?_))); simp [tx, bmk_size, abin_seql, bmk_list, h']
    refine WS_cond (t := false) (by simp [tx, bmk_size, abin_seql, bmk_list, h']) (fun h => by cases h) (fun _ => ?_)
    refine WS_seq (WS_reg [] ?_); simp [tx, bmk_size, abin_seql, bmk_list, h']
    refine WS_cond (t := true) (by simp [tx, bmk_size, abin_seql, bmk_list, h']) (fun _ => ?_) (fun h => by cases h)
    refine WS_seq (WS_reg [] ?_); simp [tx, bmk_size, abin_seql, bmk_list, h']
    refine callK ib ?_; simp [tx, bmk_size, abin_seql, bmk_list, h']
    refine WS_ret ?_; simp [tx, bmk_size, abin_seql, bmk_list, h']

end Go.Vw
set_option linter.unusedVariables false
set_option linter.unusedSimpArgs false
namespace Go.Vw
open Go.Proofs

/-- A text, cut at its first stroke; '1' below where there is none. -/
def cutL (l : List UInt8) : List UInt8 × List UInt8 := if strokeAt l = -1 then (l, [49]) else (l.take (strokeAt l).toNat, l.drop ((strokeAt l).toNat + 1))
theorem strokeAt_mid {a b : List UInt8} (h : (47 : UInt8) ∉ a) : strokeAt (a ++ 47 :: b) = (a.length : Int) := by
  induction a with
  | nil => rw [List.nil_append, strokeAt_cons, if_pos rfl]; rfl
  | cons c a ih =>
    simp only [List.mem_cons, not_or] at h
    rw [List.cons_append, strokeAt_cons, if_neg (fun e => h.1 e.symm), ih h.2, if_neg (by omega)]
    simp
theorem strokeAt_not {a : List UInt8} (h : (47 : UInt8) ∉ a) : strokeAt a = -1 := by
  rcases strokeAt_facts a with ⟨h1, _⟩ | ⟨x, y, h1, _, _⟩
  · exact h1
  · exact absurd (by rw [h1]; simp) h
theorem cutL_mid {a b : List UInt8} (h : (47 : UInt8) ∉ a) : cutL (a ++ 47 :: b) = (a, b) := by
  rw [cutL, strokeAt_mid h, if_neg (by omega)]
  simp
theorem cutL_not {a : List UInt8} (h : (47 : UInt8) ∉ a) : cutL a = (a, [49]) := by rw [cutL, strokeAt_not h, if_pos rfl]

/-- The digits of a fraction. -/
def qT (q : Rat) : List UInt8 := if q.den = 1 then zT q.num else zT q.num ++ 47 :: Nm.decT q.den
/-- The fraction of a text. -/
def qP (s : List UInt8) : Option Rat :=
  match zP (cutL s).1, parseV (cutL s).2 with
  | some n, some d => if qT (mkRat n d) = s then some (mkRat n d) else none
  | _, _ => none
def qPR : Option Rat → List RV
  | none => [.pure (rv false [] []), .pure (.i .i64 2)]
  | some r => [.pure (Q r), .pure (.i .i64 0)]

theorem bmk_cat (a b : List UInt8) (h : a.length + b.length ≤ 2 ^ 60) : abin .add (.s ⟨a.toArray⟩) (.s ⟨b.toArray⟩) = some (True, .s ⟨(a ++ b).toArray⟩) := by
  rw [abin_cat, bmk_append]
  have hmx : (((⟨a.toArray⟩ : ByteArray).size + (⟨b.toArray⟩ : ByteArray).size : Nat) : Int) ≤ IntKind.i64.max := by
    rw [bmk_size, bmk_size]
    simp [IntKind.max, IntKind.signed, IntKind.bits]; omega
  simp only [hmx]

theorem zT_len {x : Int} {k : Nat} (h : zlen x ≤ k) : (zT x).length ≤ 20 * k + 2 := by
  have := Nm.decT_length (lt_zlen' h)
  unfold zT
  split
  · simp; omega
  · omega
theorem parseV_lim {l : List UInt8} {v : Nat} (h : parseV l = some v) : zlen (v : Int) ≤ 4096 := by
  have h1 := parse_val_lt h
  have h2 := parseV_len h
  have := zlen_lt (z := (v : Int)) (k := l.length) (by rw [Int.natAbs_natCast]; exact h1)
  omega

attribute [local simp] RunL_cons RunL_nil AOp_none AOp_some acK_v acK_call agK_tt agK_ff agK_tf agK_ft agK_tup agK_i aop aun St.ev St.heap St.put thenQ blockQ upd_apply S0 argSlot lowV V.cells V.isAgg V.fits V.part partOk plains St.ret retSV svOf svsOf retQ retP retAll retOne uL_length uL_get? uL_get St.elems retH ownIdx ownAt
attribute [local simp] RunD_none RunD_some RunD_nil RunE_any acD_v acD_call agD_tt agD_ff agD_tf agD_ft agD_tup entsOf svref SO.opds SO.writes SO.makes callEnt pureSV pureOf RV.isOwn
attribute [local simp] abin_add abin_sub abin_mul abin_quo abin_rem abin_eql abin_neq abin_lss abin_leq abin_gtr abin_geq
attribute [local simp] uL_snoc uL_set uL_take uL_drop uL_append uL_replicate uL_nil
attribute [local simp] acK_callG acD_callG St.giv gsSV gvSV retEnts ownEnts SO.still
attribute [local simp] S0G argSlotG givSV retQG retPG retAllG retOneG HObj.width V.scalar trimQ V.byte
attribute [local simp] zv V.fits fillOk fillV Z_eq rv Q_eq
theorem qcut (l : List UInt8) (hl : l.length ≤ 2 ^ 40) : Spec Try.prog f_strings_Cut [tx l, tx [47]] (· = [.pure (tx (if strokeAt l = -1 then l else (cutL l).1)), .pure (tx (if strokeAt l = -1 then [] else (cutL l).2)), .pure (.b (decide (strokeAt l ≠ -1)))]) := by
  have ix := index1_spec l hl
  have hc : Spec Try.prog f_stringslite_Cut [tx l, tx [47]] (· = [.pure (tx (if strokeAt l = -1 then l else (cutL l).1)), .pure (tx (if strokeAt l = -1 then [] else (cutL l).2)), .pure (.b (decide (strokeAt l ≠ -1)))]) := by
    rcases strokeAt_facts l with ⟨h1, h2⟩ | ⟨a, b, rfl, h2, h3⟩
    · rw [h1] at ix ⊢
      refine spec_at Try.func172 ok_stringslite_Cut [] rfl (by simp) ?_
      unfold sc_stringslite_Cut
      refine WS_seq (WS_reg [] ?_); simp [tx]
      refine WS_seq (WS_seq (WS_reg [] ?_)); simp [tx]
      refine callK ix ?_; simp [tx]
      refine WS_seq (WS_reg [] ?_); simp [tx]
      refine WS_cond (t := false) (by simp [tx]) (fun h => by cases h) (fun _ => ?_)
      refine WS_skip ?_; simp [tx]
      refine WS_seq (WS_reg [] ?_); simp [tx]
      refine WS_ret ?_; simp [tx]
    · rw [h3, cutL_mid h2]
      rw [h3] at ix
      have e0 : ¬ (a.length : Int) = -1 := by omega
      rw [if_neg e0, if_neg e0, decide_eq_true (by omega)]
      simp at hl
      have es : IntKind.i64.wrap ((a.length : Int) + 1) = (a.length : Int) + 1 := i64_succ _ (by omega)
      have e1 : (a ++ 47 :: b).length = a.length + (b.length + 1) := by simp
      have e2 : ((a.length : Int) + 1).toNat = a.length + 1 := by omega
      have e3 : (a ++ 47 :: b).take a.length = a := by simp
      have e4 : (a ++ 47 :: b).drop (a.length + 1) = b := by simp
      obtain ⟨W, hW⟩ : ∃ W, W = a ++ 47 :: b := ⟨_, rfl⟩
      rw [← hW] at ix e1 e3 e4 ⊢
      have e5 : (W.take W.length) = W := List.take_length
      have e6 : (a.length : Int) ≤ (W.length : Int) := by omega
      have e8 : (0 : Int) ≤ (a.length : Int) + 1 := by omega
      have e7 : (a.length : Int) + 1 ≤ (W.length : Int) := by omega
      refine spec_at Try.func172 ok_stringslite_Cut [] rfl (by simp) ?_
      unfold sc_stringslite_Cut
      refine WS_seq (WS_reg [] ?_); simp [tx, bmk_size, bmk_extract, es, e2, e3, e4, e5, e6, e7, e8]
      refine WS_seq (WS_seq (WS_reg [] ?_)); simp [tx, bmk_size, bmk_extract, es, e2, e3, e4, e5, e6, e7, e8]
      refine callK ix ?_; simp [tx, bmk_size, bmk_extract, es, e2, e3, e4, e5, e6, e7, e8]
      refine WS_seq (WS_reg [] ?_); simp [tx, bmk_size, bmk_extract, es, e2, e3, e4, e5, e6, e7, e8]
      refine WS_cond (t := true) (by simp [tx, bmk_size, bmk_extract, es, e2, e3, e4, e5, e6, e7, e8]) (fun _ => ?_) (fun h => by cases h)
      refine WS_seq (WS_regD [] ?_); simp [tx, bmk_size, bmk_extract, es, e2, e3, e4, e5, e6, e7, e8]
      refine ⟨rfl, ?_⟩
      refine WS_ret ?_; simp [tx, bmk_size, bmk_extract, es, e2, e3, e4, e5, e6, e7, e8]
  refine spec_at Try.func159 ok_strings_Cut [] rfl (by simp) ?_
  unfold sc_strings_Cut
  obtain ⟨A, hA⟩ : ∃ A, A = tx (if strokeAt l = -1 then l else (cutL l).1) := ⟨_, rfl⟩
  obtain ⟨B, hB⟩ : ∃ A, A = tx (if strokeAt l = -1 then [] else (cutL l).2) := ⟨_, rfl⟩
  obtain ⟨C, hC⟩ : ∃ A, A = decide (strokeAt l ≠ -1) := ⟨_, rfl⟩
  rw [← hA, ← hB, ← hC] at hc ⊢
  have hA' : ∃ x, A = .s x := ⟨_, hA⟩
  have hB' : ∃ x, B = .s x := ⟨_, hB⟩
  clear hA hB hC
  obtain ⟨a, rfl⟩ := hA'
  obtain ⟨b, rfl⟩ := hB'
  refine WS_seq (WS_reg [] ?_); simp [tx]
  refine WS_seq (WS_reg [] ?_); simp [tx]
  refine callK hc ?_; simp [tx]
  refine WS_ret ?_; simp [tx]

theorem qtext {k : Nat} {v : V} {q : Rat} (hv : IsQ k v q) (hk : k ≤ 2 ^ 30) : Spec Try.prog f_rat_Text [v] (· = [.pure (tx (qT q))]) := by
  have wh := qwhole hv (by omega)
  have nm := qnorm hv (by omega)
  have ql := hv.ql
  have t1 := ztext (isZ_of ql.num) (by omega)
  have t2 := ntext_spec (qd q.den) (qd_dl _) (by rw [qd_len]; have := ql.den; omega)
  rw [qd_val] at t2
  have l1 := zT_len ql.num
  have l2 := Nm.decT_length (lt_zlen' ql.den)
  rw [Int.natAbs_natCast] at l2
  obtain ⟨n, l, d, rfl, h1, h2, _⟩ := hv
  refine spec_at Try.func112 ok_rat_Text [] rfl (by simp) ?_
  unfold sc_rat_Text
  by_cases h : q.den = 1
  · rw [wholeR, if_pos h] at wh
    rw [qT, if_pos h]
    refine WS_seq (WS_reg [] ?_); simp [tx]
    refine WS_seq (WS_seq (WS_reg [] ?_)); simp [tx]
    refine callK wh ?_; simp [tx]
    refine WS_seq (WS_reg [] ?_); simp [tx]
    refine WS_cond (t := true) (by simp [tx]) (fun _ => ?_) (fun h => by cases h)
    refine WS_seq (WS_reg [] ?_); simp [tx]
    refine callK t1 ?_; simp [tx]
    refine WS_ret ?_; simp [tx]
  · rw [wholeR, if_neg h] at wh
    rw [qT, if_neg h]
    obtain ⟨A, hA⟩ : ∃ A, A = zT q.num := ⟨_, rfl⟩
    obtain ⟨B, hB⟩ : ∃ A, A = Nm.decT q.den := ⟨_, rfl⟩
    rw [← hA] at t1 l1 ⊢
    rw [← hB] at t2 l2 ⊢
    have c1 := bmk_cat A [47] (by simp; omega)
    have c2 := bmk_cat (A ++ [47]) B (by simp; omega)
    have e : A ++ 47 :: B = A ++ [47] ++ B := by simp
    rw [e]
    obtain ⟨C, hC⟩ : ∃ C, C = A ++ [47] := ⟨_, rfl⟩
    rw [← hC] at c1 c2 ⊢
    refine WS_seq (WS_reg [] ?_); simp [tx, U, c1, c2]
    refine WS_seq (WS_seq (WS_reg [] ?_)); simp [tx, U, c1, c2]
    refine callK wh ?_; simp [tx, U, c1, c2]
    refine WS_seq (WS_reg [] ?_); simp [tx, U, c1, c2]
    refine WS_cond (t := false) (by simp [tx, U, c1, c2]) (fun h => by cases h) (fun _ => ?_)
    refine WS_skip ?_; simp [tx, U, c1, c2]
    refine WS_seq (WS_reg [] ?_); simp [tx, U, c1, c2]
    refine callK nm ?_; simp [tx, U, c1, c2]
    refine WS_seq (WS_regD [] ?_); simp [tx, U, c1, c2]
    refine callD t1 rfl ?_; simp [tx, U, c1, c2]
    refine callD t2 rfl ?_; simp [tx, U, c1, c2]
    refine ⟨rfl, ?_⟩
    refine WS_ret ?_; simp [tx, U, c1, c2]

set_option maxHeartbeats 1000000 in
theorem qparse (s : List UInt8) (hs : s.length ≤ 2 ^ 40) : Spec Try.prog f_rat_Parse [tx s] (· = qPR (qP s)) := by
  have ct := qcut s hs
  have hlen : (cutL s).1.length ≤ 2 ^ 40 ∧ (cutL s).2.length ≤ 2 ^ 40 := by
    unfold cutL
    split
    · exact ⟨hs, by simp⟩
    · simp only [List.length_take, List.length_drop]; omega
  have zp := zparse (cutL s).1 hlen.1
  have np := nparse_spec ⟨(cutL s).2.toArray⟩ (by rw [bmk_size]; exact hlen.2)
  have key : ∀ (a b : List UInt8) (t : Bool), cutL s = (a, if t then b else [49]) → (t = false → b = []) → Spec Try.prog f_strings_Cut [tx s, tx [47]] (· = [.pure (tx a), .pure (tx b), .pure (.b t)]) → Spec Try.prog f_rat_Parse [tx s] (· = qPR (qP s)) := by
    intro a b t he hb hc
    obtain ⟨w, hw⟩ : ∃ w, w = (if t then b else [49]) := ⟨_, rfl⟩
    rw [← hw] at he
    rw [he] at zp np
    have hq : qP s = match zP a, parseV w with
      | some n, some d => if qT (mkRat n d) = s then some (mkRat n d) else none
      | _, _ => none := by rw [qP, he]
    have nm : ∀ (z : Int) (d : Nat), zlen z ≤ 4096 → zlen (d : Int) ≤ 4096 → Spec Try.prog f_rat_Norm [rv (zn z) (zl z) (qd d)] (· = [.pure (Q (mkRat z d))]) := fun z d h1 h2 => qnorm (isQ_mk h1 h2) (by omega)
    have tt : ∀ (z : Int) (d : Nat), zlen z ≤ 4096 → zlen (d : Int) ≤ 4096 → Spec Try.prog f_rat_Text [Q (mkRat z d)] (· = [.pure (tx (qT (mkRat z d)))]) := fun z d h1 h2 => qtext (isQ_Q (mkRat_len h1 h2)) (by omega)
    have e0 : zlen 0 ≤ 4096 := by rw [zlen_zero]; omega
    have u0 : (U [] : V) = U (qd 0) := by rw [qd, Nm.dig_zero]
    have np' : Spec Try.prog f_nat_Parse [tx w] (· = parseR (parseV w)) := np
    cases t with
    | true =>
      obtain rfl : w = b := hw
      cases hz : zP a with
      | none =>
        rw [hz] at zp hq
        have hq : qP s = none := hq
        rw [hq]
        cases hd : parseV w with
        | none =>
          rw [hd, parseR, u0] at np'
          have n1 := nm 0 0 e0 e0
          refine spec_at Try.func111 ok_rat_Parse [] rfl (by simp) ?_
          unfold sc_rat_Parse
          refine WS_seq (WS_reg [] ?_); simp [tx, U, zPR, qPR]
          refine WS_seq (WS_reg [] ?_); simp [tx, U, zPR, qPR]
          refine callK hc ?_; simp [tx, U, zPR, qPR]
          refine WS_seq (WS_seq (WS_reg [] ?_)); simp [tx, U, zPR, qPR]
          refine WS_cond (t := false) (by simp [tx, U, zPR, qPR]) (fun h => by cases h) (fun _ => ?_)
          refine WS_skip ?_; simp [tx, U, zPR, qPR]
          refine WS_seq (WS_reg [] ?_); simp [tx, U, zPR, qPR]
          refine callK zp ?_; simp [tx, U, zPR, qPR]
          refine WS_seq (WS_reg [] ?_); simp [tx, U, zPR, qPR]
          refine callK np' ?_; simp [tx, U, zPR, qPR]
          refine WS_seq (WS_reg [] ?_); simp [tx, U, zPR, qPR]
          refine callK n1 ?_; simp [tx, U, zPR, qPR]
          refine WS_seq (WS_seq (WS_reg [] ?_)); simp [tx, U, zPR, qPR]
          refine WS_cond (t := true) (by simp [tx, U, zPR, qPR]) (fun _ => ?_) (fun h => by cases h)
          refine WS_seq (WS_reg [] ?_); simp [tx, U, zPR, qPR]
          refine WS_ret ?_; simp [tx, U, zPR, qPR]
        | some d =>
          rw [hd, parseR] at np'
          have n1 := nm 0 d e0 (parseV_lim hd)
          refine spec_at Try.func111 ok_rat_Parse [] rfl (by simp) ?_
          unfold sc_rat_Parse
          refine WS_seq (WS_reg [] ?_); simp [tx, U, zPR, qPR]
          refine WS_seq (WS_reg [] ?_); simp [tx, U, zPR, qPR]
          refine callK hc ?_; simp [tx, U, zPR, qPR]
          refine WS_seq (WS_seq (WS_reg [] ?_)); simp [tx, U, zPR, qPR]
          refine WS_cond (t := false) (by simp [tx, U, zPR, qPR]) (fun h => by cases h) (fun _ => ?_)
          refine WS_skip ?_; simp [tx, U, zPR, qPR]
          refine WS_seq (WS_reg [] ?_); simp [tx, U, zPR, qPR]
          refine callK zp ?_; simp [tx, U, zPR, qPR]
          refine WS_seq (WS_reg [] ?_); simp [tx, U, zPR, qPR]
          refine callK np' ?_; simp [tx, U, zPR, qPR]
          refine WS_seq (WS_reg [] ?_); simp [tx, U, zPR, qPR]
          refine callK n1 ?_; simp [tx, U, zPR, qPR]
          refine WS_seq (WS_seq (WS_reg [] ?_)); simp [tx, U, zPR, qPR]
          refine WS_cond (t := true) (by simp [tx, U, zPR, qPR]) (fun _ => ?_) (fun h => by cases h)
          refine WS_seq (WS_reg [] ?_); simp [tx, U, zPR, qPR]
          refine WS_ret ?_; simp [tx, U, zPR, qPR]
      | some z =>
        rw [hz] at zp hq
        have hzl := zP_len hz
        cases hd : parseV w with
        | none =>
          rw [hd] at hq
          have hq : qP s = none := hq
          rw [hq]
          rw [hd, parseR, u0] at np'
          have n1 := nm z 0 hzl e0
          refine spec_at Try.func111 ok_rat_Parse [] rfl (by simp) ?_
          unfold sc_rat_Parse
          refine WS_seq (WS_reg [] ?_); simp [tx, U, zPR, qPR]
          refine WS_seq (WS_reg [] ?_); simp [tx, U, zPR, qPR]
          refine callK hc ?_; simp [tx, U, zPR, qPR]
          refine WS_seq (WS_seq (WS_reg [] ?_)); simp [tx, U, zPR, qPR]
          refine WS_cond (t := false) (by simp [tx, U, zPR, qPR]) (fun h => by cases h) (fun _ => ?_)
          refine WS_skip ?_; simp [tx, U, zPR, qPR]
          refine WS_seq (WS_reg [] ?_); simp [tx, U, zPR, qPR]
          refine callK zp ?_; simp [tx, U, zPR, qPR]
          refine WS_seq (WS_reg [] ?_); simp [tx, U, zPR, qPR]
          refine callK np' ?_; simp [tx, U, zPR, qPR]
          refine WS_seq (WS_reg [] ?_); simp [tx, U, zPR, qPR]
          refine callK n1 ?_; simp [tx, U, zPR, qPR]
          refine WS_seq (WS_seq (WS_reg [] ?_)); simp [tx, U, zPR, qPR]
          refine WS_cond (t := true) (by simp [tx, U, zPR, qPR]) (fun _ => ?_) (fun h => by cases h)
          refine WS_seq (WS_reg [] ?_); simp [tx, U, zPR, qPR]
          refine WS_ret ?_; simp [tx, U, zPR, qPR]
        | some d =>
          rw [hd] at hq
          have hq : qP s = if qT (mkRat z d) = s then some (mkRat z d) else none := hq
          rw [hd, parseR] at np'
          have hdl := parseV_lim hd
          have n1 := nm z d hzl hdl
          have t1 := tt z d hzl hdl
          obtain ⟨r, hr⟩ : ∃ r, r = mkRat z d := ⟨_, rfl⟩
          rw [← hr] at n1 t1 hq
          by_cases hts : qT r = s
          · rw [if_pos hts] at hq
            rw [hq]
            rw [hts] at t1
            refine spec_at Try.func111 ok_rat_Parse [] rfl (by simp) ?_
            unfold sc_rat_Parse
            refine WS_seq (WS_reg [] ?_); simp [tx, U, zPR, qPR, abin_sneq]
            refine WS_seq (WS_reg [] ?_); simp [tx, U, zPR, qPR, abin_sneq]
            refine callK hc ?_; simp [tx, U, zPR, qPR, abin_sneq]
            refine WS_seq (WS_seq (WS_reg [] ?_)); simp [tx, U, zPR, qPR, abin_sneq]
            refine WS_cond (t := false) (by simp [tx, U, zPR, qPR, abin_sneq]) (fun h => by cases h) (fun _ => ?_)
            refine WS_skip ?_; simp [tx, U, zPR, qPR, abin_sneq]
            refine WS_seq (WS_reg [] ?_); simp [tx, U, zPR, qPR, abin_sneq]
            refine callK zp ?_; simp [tx, U, zPR, qPR, abin_sneq]
            refine WS_seq (WS_reg [] ?_); simp [tx, U, zPR, qPR, abin_sneq]
            refine callK np' ?_; simp [tx, U, zPR, qPR, abin_sneq]
            refine WS_seq (WS_reg [] ?_); simp [tx, U, zPR, qPR, abin_sneq]
            refine callK n1 ?_; simp [tx, U, zPR, qPR, abin_sneq]
            refine WS_seq (WS_seq (WS_reg [] ?_)); simp [tx, U, zPR, qPR, abin_sneq]
            refine callK t1 ?_; simp [tx, U, zPR, qPR, abin_sneq]
            refine WS_cond (t := false) (by simp [tx, U, zPR, qPR, abin_sneq]) (fun h => by cases h) (fun _ => ?_)
            refine WS_skip ?_; simp [tx, U, zPR, qPR, abin_sneq]
            refine WS_seq (WS_reg [] ?_); simp [tx, U, zPR, qPR, abin_sneq]
            refine WS_ret ?_; simp [tx, U, zPR, qPR, abin_sneq]
          · rw [if_neg hts] at hq
            rw [hq]
            have hts' : (qT r == s) = false := by simpa using hts
            refine spec_at Try.func111 ok_rat_Parse [] rfl (by simp) ?_
            unfold sc_rat_Parse
            refine WS_seq (WS_reg [] ?_); simp [tx, U, zPR, qPR, abin_sneq, bmk_list, hts']
            refine WS_seq (WS_reg [] ?_); simp [tx, U, zPR, qPR, abin_sneq, bmk_list, hts']
            refine callK hc ?_; simp [tx, U, zPR, qPR, abin_sneq, bmk_list, hts']
            refine WS_seq (WS_seq (WS_reg [] ?_)); simp [tx, U, zPR, qPR, abin_sneq, bmk_list, hts']
            refine WS_cond (t := false) (by simp [tx, U, zPR, qPR, abin_sneq, bmk_list, hts']) (fun h => by cases h) (fun _ => ?_)
            refine WS_skip ?_; simp [tx, U, zPR, qPR, abin_sneq, bmk_list, hts']
            refine WS_seq (WS_reg [] ?_); simp [tx, U, zPR, qPR, abin_sneq, bmk_list, hts']
            refine callK zp ?_; simp [tx, U, zPR, qPR, abin_sneq, bmk_list, hts']
            refine WS_seq (WS_reg [] ?_); simp [tx, U, zPR, qPR, abin_sneq, bmk_list, hts']
            refine callK np' ?_; simp [tx, U, zPR, qPR, abin_sneq, bmk_list, hts']
            refine WS_seq (WS_reg [] ?_); simp [tx, U, zPR, qPR, abin_sneq, bmk_list, hts']
            refine callK n1 ?_; simp [tx, U, zPR, qPR, abin_sneq, bmk_list, hts']
            refine WS_seq (WS_seq (WS_reg [] ?_)); simp [tx, U, zPR, qPR, abin_sneq, bmk_list, hts']
            refine callK t1 ?_; simp [tx, U, zPR, qPR, abin_sneq, bmk_list, hts']
            refine WS_cond (t := true) (by simp [tx, U, zPR, qPR, abin_sneq, bmk_list, hts']) (fun _ => ?_) (fun h => by cases h)
            refine WS_seq (WS_reg [] ?_); simp [tx, U, zPR, qPR, abin_sneq, bmk_list, hts']
            refine WS_ret ?_; simp [tx, U, zPR, qPR, abin_sneq, bmk_list, hts']
    | false =>
      obtain rfl : w = [49] := hw
      cases hz : zP a with
      | none =>
        rw [hz] at zp hq
        have hq : qP s = none := hq
        rw [hq]
        cases hd : parseV [49] with
        | none =>
          rw [hd, parseR, u0] at np'
          have n1 := nm 0 0 e0 e0
          refine spec_at Try.func111 ok_rat_Parse [] rfl (by simp) ?_
          unfold sc_rat_Parse
          refine WS_seq (WS_reg [] ?_); simp [tx, U, zPR, qPR]
          refine WS_seq (WS_reg [] ?_); simp [tx, U, zPR, qPR]
          refine callK hc ?_; simp [tx, U, zPR, qPR]
          refine WS_seq (WS_seq (WS_reg [] ?_)); simp [tx, U, zPR, qPR]
          refine WS_cond (t := true) (by simp [tx, U, zPR, qPR]) (fun _ => ?_) (fun h => by cases h)
          refine WS_reg [] ?_; simp [tx, U, zPR, qPR]
          refine WS_seq (WS_reg [] ?_); simp [tx, U, zPR, qPR]
          refine callK zp ?_; simp [tx, U, zPR, qPR]
          refine WS_seq (WS_reg [] ?_); simp [tx, U, zPR, qPR]
          refine callK np' ?_; simp [tx, U, zPR, qPR]
          refine WS_seq (WS_reg [] ?_); simp [tx, U, zPR, qPR]
          refine callK n1 ?_; simp [tx, U, zPR, qPR]
          refine WS_seq (WS_seq (WS_reg [] ?_)); simp [tx, U, zPR, qPR]
          refine WS_cond (t := true) (by simp [tx, U, zPR, qPR]) (fun _ => ?_) (fun h => by cases h)
          refine WS_seq (WS_reg [] ?_); simp [tx, U, zPR, qPR]
          refine WS_ret ?_; simp [tx, U, zPR, qPR]
        | some d =>
          rw [hd, parseR] at np'
          have n1 := nm 0 d e0 (parseV_lim hd)
          refine spec_at Try.func111 ok_rat_Parse [] rfl (by simp) ?_
          unfold sc_rat_Parse
          refine WS_seq (WS_reg [] ?_); simp [tx, U, zPR, qPR]
          refine WS_seq (WS_reg [] ?_); simp [tx, U, zPR, qPR]
          refine callK hc ?_; simp [tx, U, zPR, qPR]
          refine WS_seq (WS_seq (WS_reg [] ?_)); simp [tx, U, zPR, qPR]
          refine WS_cond (t := true) (by simp [tx, U, zPR, qPR]) (fun _ => ?_) (fun h => by cases h)
          refine WS_reg [] ?_; simp [tx, U, zPR, qPR]
          refine WS_seq (WS_reg [] ?_); simp [tx, U, zPR, qPR]
          refine callK zp ?_; simp [tx, U, zPR, qPR]
          refine WS_seq (WS_reg [] ?_); simp [tx, U, zPR, qPR]
          refine callK np' ?_; simp [tx, U, zPR, qPR]
          refine WS_seq (WS_reg [] ?_); simp [tx, U, zPR, qPR]
          refine callK n1 ?_; simp [tx, U, zPR, qPR]
          refine WS_seq (WS_seq (WS_reg [] ?_)); simp [tx, U, zPR, qPR]
          refine WS_cond (t := true) (by simp [tx, U, zPR, qPR]) (fun _ => ?_) (fun h => by cases h)
          refine WS_seq (WS_reg [] ?_); simp [tx, U, zPR, qPR]
          refine WS_ret ?_; simp [tx, U, zPR, qPR]
      | some z =>
        rw [hz] at zp hq
        have hzl := zP_len hz
        cases hd : parseV [49] with
        | none =>
          rw [hd] at hq
          have hq : qP s = none := hq
          rw [hq]
          rw [hd, parseR, u0] at np'
          have n1 := nm z 0 hzl e0
          refine spec_at Try.func111 ok_rat_Parse [] rfl (by simp) ?_
          unfold sc_rat_Parse
          refine WS_seq (WS_reg [] ?_); simp [tx, U, zPR, qPR]
          refine WS_seq (WS_reg [] ?_); simp [tx, U, zPR, qPR]
          refine callK hc ?_; simp [tx, U, zPR, qPR]
          refine WS_seq (WS_seq (WS_reg [] ?_)); simp [tx, U, zPR, qPR]
          refine WS_cond (t := true) (by simp [tx, U, zPR, qPR]) (fun _ => ?_) (fun h => by cases h)
          refine WS_reg [] ?_; simp [tx, U, zPR, qPR]
          refine WS_seq (WS_reg [] ?_); simp [tx, U, zPR, qPR]
          refine callK zp ?_; simp [tx, U, zPR, qPR]
          refine WS_seq (WS_reg [] ?_); simp [tx, U, zPR, qPR]
          refine callK np' ?_; simp [tx, U, zPR, qPR]
          refine WS_seq (WS_reg [] ?_); simp [tx, U, zPR, qPR]
          refine callK n1 ?_; simp [tx, U, zPR, qPR]
          refine WS_seq (WS_seq (WS_reg [] ?_)); simp [tx, U, zPR, qPR]
          refine WS_cond (t := true) (by simp [tx, U, zPR, qPR]) (fun _ => ?_) (fun h => by cases h)
          refine WS_seq (WS_reg [] ?_); simp [tx, U, zPR, qPR]
          refine WS_ret ?_; simp [tx, U, zPR, qPR]
        | some d =>
          rw [hd] at hq
          have hq : qP s = if qT (mkRat z d) = s then some (mkRat z d) else none := hq
          rw [hd, parseR] at np'
          have hdl := parseV_lim hd
          have n1 := nm z d hzl hdl
          have t1 := tt z d hzl hdl
          obtain ⟨r, hr⟩ : ∃ r, r = mkRat z d := ⟨_, rfl⟩
          rw [← hr] at n1 t1 hq
          by_cases hts : qT r = s
          · rw [if_pos hts] at hq
            rw [hq]
            rw [hts] at t1
            refine spec_at Try.func111 ok_rat_Parse [] rfl (by simp) ?_
            unfold sc_rat_Parse
            refine WS_seq (WS_reg [] ?_); simp [tx, U, zPR, qPR, abin_sneq]
            refine WS_seq (WS_reg [] ?_); simp [tx, U, zPR, qPR, abin_sneq]
            refine callK hc ?_; simp [tx, U, zPR, qPR, abin_sneq]
            refine WS_seq (WS_seq (WS_reg [] ?_)); simp [tx, U, zPR, qPR, abin_sneq]
            refine WS_cond (t := true) (by simp [tx, U, zPR, qPR, abin_sneq]) (fun _ => ?_) (fun h => by cases h)
            refine WS_reg [] ?_; simp [tx, U, zPR, qPR, abin_sneq]
            refine WS_seq (WS_reg [] ?_); simp [tx, U, zPR, qPR, abin_sneq]
            refine callK zp ?_; simp [tx, U, zPR, qPR, abin_sneq]
            refine WS_seq (WS_reg [] ?_); simp [tx, U, zPR, qPR, abin_sneq]
            refine callK np' ?_; simp [tx, U, zPR, qPR, abin_sneq]
            refine WS_seq (WS_reg [] ?_); simp [tx, U, zPR, qPR, abin_sneq]
            refine callK n1 ?_; simp [tx, U, zPR, qPR, abin_sneq]
            refine WS_seq (WS_seq (WS_reg [] ?_)); simp [tx, U, zPR, qPR, abin_sneq]
            refine callK t1 ?_; simp [tx, U, zPR, qPR, abin_sneq]
            refine WS_cond (t := false) (by simp [tx, U, zPR, qPR, abin_sneq]) (fun h => by cases h) (fun _ => ?_)
            refine WS_skip ?_; simp [tx, U, zPR, qPR, abin_sneq]
            refine WS_seq (WS_reg [] ?_); simp [tx, U, zPR, qPR, abin_sneq]
            refine WS_ret ?_; simp [tx, U, zPR, qPR, abin_sneq]
          · rw [if_neg hts] at hq
            rw [hq]
            have hts' : (qT r == s) = false := by simpa using hts
            refine spec_at Try.func111 ok_rat_Parse [] rfl (by simp) ?_
            unfold sc_rat_Parse
            refine WS_seq (WS_reg [] ?_); simp [tx, U, zPR, qPR, abin_sneq, bmk_list, hts']
            refine WS_seq (WS_reg [] ?_); simp [tx, U, zPR, qPR, abin_sneq, bmk_list, hts']
            refine callK hc ?_; simp [tx, U, zPR, qPR, abin_sneq, bmk_list, hts']
            refine WS_seq (WS_seq (WS_reg [] ?_)); simp [tx, U, zPR, qPR, abin_sneq, bmk_list, hts']
            refine WS_cond (t := true) (by simp [tx, U, zPR, qPR, abin_sneq, bmk_list, hts']) (fun _ => ?_) (fun h => by cases h)
            refine WS_reg [] ?_; simp [tx, U, zPR, qPR, abin_sneq, bmk_list, hts']
            refine WS_seq (WS_reg [] ?_); simp [tx, U, zPR, qPR, abin_sneq, bmk_list, hts']
            refine callK zp ?_; simp [tx, U, zPR, qPR, abin_sneq, bmk_list, hts']
            refine WS_seq (WS_reg [] ?_); simp [tx, U, zPR, qPR, abin_sneq, bmk_list, hts']
            refine callK np' ?_; simp [tx, U, zPR, qPR, abin_sneq, bmk_list, hts']
            refine WS_seq (WS_reg [] ?_); simp [tx, U, zPR, qPR, abin_sneq, bmk_list, hts']
            refine callK n1 ?_; simp [tx, U, zPR, qPR, abin_sneq, bmk_list, hts']
            refine WS_seq (WS_seq (WS_reg [] ?_)); simp [tx, U, zPR, qPR, abin_sneq, bmk_list, hts']
            refine callK t1 ?_; simp [tx, U, zPR, qPR, abin_sneq, bmk_list, hts']
            refine WS_cond (t := true) (by simp [tx, U, zPR, qPR, abin_sneq, bmk_list, hts']) (fun _ => ?_) (fun h => by cases h)
            refine WS_seq (WS_reg [] ?_); simp [tx, U, zPR, qPR, abin_sneq, bmk_list, hts']
            refine WS_ret ?_; simp [tx, U, zPR, qPR, abin_sneq, bmk_list, hts']
  by_cases h : strokeAt s = -1
  · rw [if_pos h, if_pos h, decide_eq_false (by simp [h])] at ct
    exact key s [] false (by rw [cutL, if_pos h]; rfl) (fun _ => rfl) ct
  · rw [if_neg h, if_neg h, decide_eq_true h] at ct
    exact key _ _ true rfl (fun h => by cases h) ct

end Go.Vw
set_option linter.unusedVariables false
set_option linter.unusedSimpArgs false
namespace Go.Vw
open Go.Proofs

def few3B (n : Nat) (L : List (Bool × List Nat × List Nat)) : Bool := L.all fun p => decide (p.2.1.length ≤ n) && decide (p.2.2.length ≤ n)
def rL (L : List (Bool × List Nat × List Nat)) : List V := L.map fun p => rv p.1 p.2.1 p.2.2

attribute [local simp] RunL_cons RunL_nil AOp_none AOp_some acK_v acK_call agK_tt agK_ff agK_tf agK_ft agK_tup agK_i aop aun St.ev St.heap St.put thenQ blockQ upd_apply S0 argSlot lowV V.cells V.isAgg V.fits V.part partOk plains St.ret retSV svOf svsOf retQ retP retAll retOne uL_length uL_get? uL_get St.elems retH ownIdx ownAt
attribute [local simp] RunD_none RunD_some RunD_nil RunE_any acD_v acD_call agD_tt agD_ff agD_tf agD_ft agD_tup entsOf svref SO.opds SO.writes SO.makes callEnt pureSV pureOf RV.isOwn
attribute [local simp] abin_add abin_sub abin_mul abin_quo abin_rem abin_eql abin_neq abin_lss abin_leq abin_gtr abin_geq
attribute [local simp] uL_snoc uL_set uL_take uL_drop uL_append uL_replicate uL_nil
attribute [local simp] acK_callG acD_callG St.giv gsSV gvSV retEnts ownEnts SO.still
attribute [local simp] S0G argSlotG givSV retQG retPG retAllG retOneG HObj.width V.scalar trimQ V.byte
attribute [local simp] zv V.fits fillOk fillV Z_eq rv Q_eq
end Go.Vw
set_option linter.unusedVariables false
set_option linter.unusedSimpArgs false
namespace Go.Vw
open Go.Proofs

theorem q_cancel (a b c : Rat) : (a + c) - (b + c) = a - b := by grind
theorem q_inv (a : Rat) (h : a ≠ 0) : a * (1 / a) = 1 := by grind
theorem q_swap (a b : Rat) : b - a = -(a - b) := by grind
theorem q_scale (a b k : Int) (hb : b ≠ 0) (hk : k ≠ 0) : Rat.divInt (a * k) (b * k) = Rat.divInt a b := by
  rw [Rat.divInt_eq_divInt_iff (by simp [hb, hk]) hb]; grind
theorem q_times (a b : Int) (hb : b ≠ 0) : Rat.divInt a b * mkRat b 1 = (a : Rat) := by
  rw [← Rat.mkRat_one, ← Rat.divInt_ofNat, ← Rat.divInt_ofNat, Rat.divInt_mul_divInt, Rat.divInt_eq_divInt_iff (by simp [hb]) (by simp)]
  simp
theorem q_coprime (q : Rat) : Int.gcd q.num (q.den : Int) = 1 := by
  have := q.reduced
  simpa [Int.gcd, Nat.Coprime] using this
theorem q_trans (a b c : Rat) (h1 : (a - b).num.sign ≤ 0) (h2 : (b - c).num.sign ≤ 0) : (a - c).num.sign ≤ 0 := by
  rw [Int.sign_nonpos_iff] at *
  have e1 : 0 ≤ b - a := by rw [← Rat.num_nonneg, q_swap a b, Rat.neg_num]; omega
  have e2 : 0 ≤ c - b := by rw [← Rat.num_nonneg, q_swap b c, Rat.neg_num]; omega
  have e3 : 0 ≤ c - a := by grind
  rw [← Rat.num_nonneg, q_swap a c, Rat.neg_num] at e3
  omega
theorem sign_in (x : Int) : -1 ≤ x.sign ∧ x.sign ≤ 1 := by
  rcases Int.lt_trichotomy x 0 with h | h | h
  · rw [Int.sign_eq_neg_one_of_neg h]; omega
  · rw [h]; decide
  · rw [Int.sign_eq_one_of_pos h]; omega

theorem txB_ne {d : Nat} (h : d < 10) : Nm.txB d ≠ 47 := by
  intro e
  have := Nm.txB_nat h
  rw [e] at this
  have h4 : (47 : UInt8).toNat = 47 := rfl
  omega
theorem decT_stroke (n : Nat) : (47 : UInt8) ∉ Nm.decT n := by
  unfold Nm.decT
  split
  · decide
  · rw [Nm.decL]
    intro h
    simp only [List.mem_map, List.mem_reverse] at h
    obtain ⟨d, hd, he⟩ := h
    exact txB_ne (Nm.dig_lt (by omega) n d hd) he
theorem zT_stroke (x : Int) : (47 : UInt8) ∉ zT x := by
  unfold zT
  split
  · simp [decT_stroke]
  · exact decT_stroke _
theorem qP_qT {q : Rat} (h1 : (Nm.decT q.num.natAbs).length ≤ 4096) (h2 : (Nm.decT q.den).length ≤ 4096) : qP (qT q) = some q := by
  have hz := zP_zT h1
  by_cases hd : q.den = 1
  · have e : qT q = zT q.num := by rw [qT, if_pos hd]
    have hp : parseV [49] = some 1 := by decide +kernel
    have hm : mkRat q.num 1 = q := by rw [← hd, Rat.mkRat_self]
    rw [qP, e, cutL_not (zT_stroke _)]
    simp only [hz, hp, hm]
    rw [if_pos e]
  · have e : qT q = zT q.num ++ 47 :: Nm.decT q.den := by rw [qT, if_neg hd]
    have hp := Nm.parse_decT h2
    rw [qP, e, cutL_mid (zT_stroke _)]
    simp only [hz, hp, Rat.mkRat_self]
    rw [if_pos e]
theorem qP_T {s : List UInt8} {q : Rat} (h : qP s = some q) : qT q = s := by
  unfold qP at h
  split at h
  · split at h
    · rename_i h'
      simp only [Option.some.injEq] at h
      rw [← h]; exact h'
    · cases h
  · cases h
theorem qP_len {s : List UInt8} {q : Rat} (h : qP s = some q) : QL 4097 q := by
  unfold qP at h
  split at h
  · rename_i n d hn hd
    split at h
    · simp only [Option.some.injEq] at h
      rw [← h]
      exact mkRat_len (zP_len hn) (parseV_lim hd)
    · cases h
  · cases h

attribute [local simp] RunL_cons RunL_nil AOp_none AOp_some acK_v acK_call agK_tt agK_ff agK_tf agK_ft agK_tup agK_i aop aun St.ev St.heap St.put thenQ blockQ upd_apply S0 argSlot lowV V.cells V.isAgg V.fits V.part partOk plains St.ret retSV svOf svsOf retQ retP retAll retOne uL_length uL_get? uL_get St.elems retH ownIdx ownAt
attribute [local simp] RunD_none RunD_some RunD_nil RunE_any acD_v acD_call agD_tt agD_ff agD_tf agD_ft agD_tup entsOf svref SO.opds SO.writes SO.makes callEnt pureSV pureOf RV.isOwn
attribute [local simp] abin_add abin_sub abin_mul abin_quo abin_rem abin_eql abin_neq abin_lss abin_leq abin_gtr abin_geq
attribute [local simp] uL_snoc uL_set uL_take uL_drop uL_append uL_replicate uL_nil
attribute [local simp] acK_callG acD_callG St.giv gsSV gvSV retEnts ownEnts SO.still
attribute [local simp] S0G argSlotG givSV retQG retPG retAllG retOneG HObj.width V.scalar trimQ V.byte
attribute [local simp] zv V.fits fillOk fillV Z_eq rv Q_eq
end Go.Vw
set_option linter.unusedVariables false
set_option linter.unusedSimpArgs false
namespace Go.Vw
open Go.Proofs

theorem makeR_ok {x y : Int} (h : y ≠ 0) : makeR x y = [.pure (Q (Rat.divInt x y)), .pure (.i .i64 0)] := by rw [makeR, if_neg h]
theorem makeR_no (x : Int) : makeR x 0 = [.pure (rv false [] []), .pure (.i .i64 3)] := by rw [makeR, if_pos rfl]
theorem sign_ne {x : Int} (h : x ≠ 0) : x.sign ≠ 0 := by rw [Ne, Int.sign_eq_zero_iff_zero]; exact h

attribute [local simp] RunL_cons RunL_nil AOp_none AOp_some acK_v acK_call agK_tt agK_ff agK_tf agK_ft agK_tup agK_i aop aun St.ev St.heap St.put thenQ blockQ upd_apply S0 argSlot lowV V.cells V.isAgg V.fits V.part partOk plains St.ret retSV svOf svsOf retQ retP retAll retOne uL_length uL_get? uL_get St.elems retH ownIdx ownAt
attribute [local simp] RunD_none RunD_some RunD_nil RunE_any acD_v acD_call agD_tt agD_ff agD_tf agD_ft agD_tup entsOf svref SO.opds SO.writes SO.makes callEnt pureSV pureOf RV.isOwn
attribute [local simp] abin_add abin_sub abin_mul abin_quo abin_rem abin_eql abin_neq abin_lss abin_leq abin_gtr abin_geq
attribute [local simp] uL_snoc uL_set uL_take uL_drop uL_append uL_replicate uL_nil
attribute [local simp] acK_callG acD_callG St.giv gsSV gvSV retEnts ownEnts SO.still
attribute [local simp] S0G argSlotG givSV retQG retPG retAllG retOneG HObj.width V.scalar trimQ V.byte
attribute [local simp] zv V.fits fillOk fillV Z_eq rv Q_eq
theorem qsame_Z {x : Int} (hl : zlen x ≤ 2 ^ 40) : Spec Try.prog f_ref02_Same [Z x, Z x] (· = [.pure (.b true)]) := zsame x hl

end Go.Vw
