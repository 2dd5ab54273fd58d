/- Fractions. -/
import Derived.Test.YtphcdigmgbhjcaaGreatME
import Derived.Test.YtphcdigmgbhjcaaGreatS3
import Derived.Test.YtphcdigmgbhjcaaGreatS4
import Derived.Lib.Bytealg
import Derived.Test.YtphcdigmgbhjcaaGreatMD
import Derived.Test.YtphcdigmgbhjcaaGreatS5
set_option linter.unusedVariables false
set_option linter.unusedSimpArgs false
namespace Go.Vw
open Go.Proofs

/-- A fraction's value: its upper number's sign and limbs, its lower number's limbs. -/
def rv (n : Bool) (l d : List Nat) : V := .agg [.b n, .sl none (uL l), .sl none (uL d)]
def qd (n : Nat) : List Nat := Nm.dig 18446744073709551616 n
/-- A fraction, plain. -/
def Q (q : Rat) : V := rv (zn q.num) (zl q.num) (qd q.den)
theorem Q_eq (q : Rat) : Q q = .agg [.b (zn q.num), .sl none (uL (zl q.num)), .sl none (uL (qd q.den))] := rfl

def rq (n : Bool) (l d : List Nat) : Rat := mkRat (zi n l) (Nm.val 18446744073709551616 d)
def IsQ (k : Nat) (v : V) (q : Rat) : Prop := ∃ n l d, v = rv n l d ∧ ZW k l ∧ ZW k d ∧ rq n l d = q

/-- A fraction's numbers have so many limbs at most. -/
structure QL (k : Nat) (q : Rat) : Prop where
  num : zlen q.num ≤ k
  den : zlen (q.den : Int) ≤ k
theorem QL.mono {k m : Nat} {q : Rat} (h : QL k q) (hk : k ≤ m) : QL m q := ⟨Nat.le_trans h.num hk, Nat.le_trans h.den hk⟩
theorem IsQ.mono {k m : Nat} {v : V} {q : Rat} (h : IsQ k v q) (hk : k ≤ m) : IsQ m v q := by
  obtain ⟨n, l, d, h1, h2, h3, h4⟩ := h
  exact ⟨n, l, d, h1, h2.mono hk, h3.mono hk, h4⟩
theorem isQ_rv {k : Nat} {n : Bool} {l d : List Nat} (h1 : ZW k l) (h2 : ZW k d) : IsQ k (rv n l d) (rq n l d) := ⟨n, l, d, rfl, h1, h2, rfl⟩
theorem qd_zl (n : Nat) : qd n = zl (n : Int) := by simp [qd, zl]
theorem isQ_Q {k : Nat} {q : Rat} (h : QL k q) : IsQ k (Q q) q := by
  refine ⟨zn q.num, zl q.num, qd q.den, rfl, ⟨zl_dl _, h.num⟩, ⟨Nm.dig_lt (by omega) _, by rw [qd_zl]; exact h.den⟩, ?_⟩
  rw [rq, zi_Z, qd, Nm.val_dig (by omega), Rat.mkRat_self]

theorem zlen_abs {x : Int} {y : Nat} (h : x.natAbs = y) : zlen (y : Int) = zlen x := by simp [zlen, zl, h]
theorem divInt_num {x y : Int} (hy : y ≠ 0) : (Rat.divInt x y).num = if y < 0 then -(x / (Int.gcd x y : Int)) else x / (Int.gcd x y : Int) := by
  rw [Rat.num_divInt, Int.gcd_comm y x]
  split
  · rw [Int.sign_eq_neg_one_of_neg (by omega), Int.neg_one_mul, Int.neg_ediv_of_dvd (Int.gcd_dvd_left _ _)]
  · rw [Int.sign_eq_one_of_pos (by omega), Int.one_mul]
theorem divInt_den {x y : Int} (hy : y ≠ 0) : (Rat.divInt x y).den = (y / (Int.gcd x y : Int)).natAbs := by
  rw [Rat.den_divInt, if_neg hy, Int.natAbs_ediv_of_dvd (Int.gcd_dvd_right _ _), Int.gcd_comm y x]
  rfl
theorem divInt_len {x y : Int} {k : Nat} (hx : zlen x ≤ k) (hy : zlen y ≤ k) : QL (k + 1) (Rat.divInt x y) := by
  by_cases h0 : y = 0
  · subst h0
    rw [Rat.divInt_zero]
    exact ⟨by rw [Rat.zero_num, zlen_zero]; omega, by have := zlen_one; rw [show ((0 : Rat).den : Int) = 1 by rfl]; omega⟩
  · refine ⟨?_, ?_⟩
    · rw [divInt_num h0]
      split
      · rw [zlen_neg]; have := zlen_ediv x (Int.gcd x y : Int); omega
      · have := zlen_ediv x (Int.gcd x y : Int); omega
    · rw [zlen_abs (divInt_den h0).symm]; have := zlen_ediv y (Int.gcd x y : Int); omega
theorem mkRat_len {x : Int} {d : Nat} {k : Nat} (hx : zlen x ≤ k) (hy : zlen (d : Int) ≤ k) : QL (k + 1) (mkRat x d) := by
  rw [← Rat.divInt_ofNat]; exact divInt_len hx hy
theorem IsQ.ql {k : Nat} {v : V} {q : Rat} (h : IsQ k v q) : QL (k + 1) q := by
  obtain ⟨n, l, d, rfl, h1, h2, rfl⟩ := h
  refine mkRat_len (isZ_zv (n := n) h1).zlen ?_
  have := (isZ_zv (n := false) h2).zlen
  rwa [show zi false d = (Nm.val 18446744073709551616 d : Int) by simp [zi]] at this

theorem gcd_ne {x y : Int} (h0 : y ≠ 0) : (Int.gcd x y : Int) ≠ 0 := by
  intro h
  have hg : Int.gcd x y = 0 := by omega
  exact h0 (Int.gcd_eq_zero_iff.1 hg).2
theorem zn_div {x y : Int} (h0 : y ≠ 0) : zn (y / (Int.gcd x y : Int)) = decide (y < 0) := by
  have g0 := gcd_ne (x := x) h0
  have gp : (0 : Int) < (Int.gcd x y : Int) := by omega
  rw [zn]
  congr 1
  have hm := Int.mul_ediv_cancel' (Int.gcd_dvd_right x y)
  apply propext
  constructor
  · intro h
    rw [← hm]
    exact Int.mul_neg_of_pos_of_neg gp h
  · intro h
    by_cases h' : y / (Int.gcd x y : Int) < 0
    · exact h'
    · have := Int.mul_nonneg (Int.le_of_lt gp) (Int.not_lt.1 h')
      omega

/-- What Make answers. -/
def makeR (x y : Int) : List RV := if y = 0 then [.pure (rv false [] []), .pure (.i .i64 3)] else [.pure (Q (Rat.divInt x y)), .pure (.i .i64 0)]

attribute [local simp] RunL_cons RunL_nil AOp_none AOp_some acK_v acK_call agK_tt agK_ff agK_tf agK_ft agK_tup agK_i aop aun St.ev St.heap St.put thenQ blockQ scopeQ upd_apply S0 argSlot lowV V.cells V.isAgg V.fits V.part partOk plains St.ret retSV svOf svsOf retQ retP retAll retOne uL_length uL_get? uL_get St.elems retH ownIdx ownAt
attribute [local simp] RunD_none RunD_some RunD_nil RunE_any acD_v acD_call agD_tt agD_ff agD_tf agD_ft agD_tup entsOf svref SO.opds SO.writes SO.makes callEnt pureSV pureOf RV.isOwn
attribute [local simp] abin_add abin_sub abin_mul abin_quo abin_rem abin_eql abin_neq abin_lss abin_leq abin_gtr abin_geq
attribute [local simp] uL_snoc uL_set uL_take uL_drop uL_append uL_replicate uL_nil
attribute [local simp] acK_callG acD_callG St.giv gsSV gvSV retEnts ownEnts SO.still
attribute [local simp] S0G argSlotG givSV retQG retPG retAllG retOneG HObj.width V.scalar trimQ V.byte
attribute [local simp] zv V.fits fillOk fillV Z_eq rv Q_eq
set_option maxHeartbeats 1000000 in
theorem zmake {k : Nat} {v w : V} {x y : Int} (hv : IsZ k v x) (hw : IsZ k w y) (hk : k ≤ 2 ^ 33) : Spec Tryz.prog f_rat_Make [v, w] (· = makeR x y) := by
  have sg := zsign hw (by omega)
  have gd := zgcd hv hw hk
  have q1 := hv.zlen
  have q2 := hw.zlen
  have gl := gcd_len q1 q2
  have ex1 := zexact hv (isZ_of gl) (by omega)
  have ex2 := zexact hw (isZ_of gl) (by omega)
  have dv1 : x % (Int.gcd x y : Int) = 0 := Int.emod_eq_zero_of_dvd (Int.gcd_dvd_left _ _)
  have dv2 : y % (Int.gcd x y : Int) = 0 := Int.emod_eq_zero_of_dvd (Int.gcd_dvd_right _ _)
  have ql := zlen_ediv x (Int.gcd x y : Int)
  obtain ⟨n1, l1, rfl, h1, rfl⟩ := hv
  obtain ⟨n2, l2, rfl, h2, rfl⟩ := hw
  obtain ⟨x, hx⟩ : ∃ x, x = zi n1 l1 := ⟨_, rfl⟩
  obtain ⟨y, hy⟩ : ∃ x, x = zi n2 l2 := ⟨_, rfl⟩
  rw [← hx, ← hy] at gd gl ex1 ex2 dv1 dv2 ql ⊢
  rw [← hy] at sg q2
  rw [← hx] at q1
  refine spec_at Tryz.func69 ok_rat_Make [] rfl (by simp) ?_
  unfold sc_rat_Make
  by_cases h0 : y = 0
  · rw [makeR, if_pos h0]
    rw [h0, Int.sign_zero] at sg
    refine WS_seq (WS_reg [] ?_); simp [uL_nil]
    refine WS_seq (WS_seq (WS_reg [] ?_)); simp [uL_nil]
    refine callK sg ?_; simp [uL_nil]
    refine WS_cond (t := true) (by simp [uL_nil]) (fun _ => ?_) (fun h => by cases h)
    refine WS_seq (WS_reg [] ?_); simp [uL_nil]
    refine WS_ret ?_; simp [uL_nil]
  · have hs : y.sign ≠ 0 := by rw [Ne, Int.sign_eq_zero_iff_zero]; exact h0
    have g0 := gcd_ne (x := x) h0
    rw [exactR, if_neg g0, if_pos dv1] at ex1
    rw [exactR, if_neg g0, if_pos dv2] at ex2
    have hn := divInt_num (x := x) h0
    have hd := divInt_den (x := x) h0
    have hsg := zn_div (x := x) h0
    have ng := zneg (isZ_of (x := x / (Int.gcd x y : Int)) (k := k) (by omega)) (by omega)
    rw [makeR, if_neg h0]
    have hz : qd (Rat.divInt x y).den = zl (y / (Int.gcd x y : Int)) := by rw [qd, hd]; rfl
    rw [Q_eq, hz]
    obtain ⟨p, hp⟩ : ∃ p, p = (Rat.divInt x y).num := ⟨_, rfl⟩
    rw [← hp] at hn ⊢
    obtain ⟨g, hg⟩ : ∃ g : Int, g = (Int.gcd x y : Int) := ⟨_, rfl⟩
    rw [← hg] at gd ex1 ex2 hn hsg ng ⊢
    by_cases hneg : y < 0
    · rw [if_pos hneg] at hn
      rw [← hn] at ng
      rw [decide_eq_true hneg] at hsg
      refine WS_seq (WS_reg [] ?_); simp [hs, hsg]
      refine WS_seq (WS_seq (WS_reg [] ?_)); simp [hs, hsg]
      refine callK sg ?_; simp [hs, hsg]
      refine WS_cond (t := false) (by simp [hs, hsg]) (fun h => by cases h) (fun _ => ?_)
      refine WS_skip ?_; simp [hs, hsg]
      refine WS_seq (WS_reg [] ?_); simp [hs, hsg]
      refine callK gd ?_; simp [hs, hsg]
      refine WS_seq (WS_reg [] ?_); simp [hs, hsg]
      refine callK ex1 ?_; simp [hs, hsg]
      refine WS_seq (WS_reg [] ?_); simp [hs, hsg]
      refine callK ex2 ?_; simp [hs, hsg]
      refine WS_seq (WS_seq (WS_reg [] ?_)); simp [hs, hsg]
      refine WS_cond (t := true) (by simp [hs, hsg]) (fun _ => ?_) (fun h => by cases h)
      refine WS_reg [] ?_; simp [hs, hsg]
      refine callK ng ?_; simp [hs, hsg]
      refine WS_seq (WS_reg [] ?_); simp [hs, hsg]
      refine WS_ret ?_; simp [hs, hsg]
    · rw [if_neg hneg] at hn
      rw [decide_eq_false hneg] at hsg
      refine WS_seq (WS_reg [] ?_); simp [hs, hsg, hn]
      refine WS_seq (WS_seq (WS_reg [] ?_)); simp [hs, hsg, hn]
      refine callK sg ?_; simp [hs, hsg, hn]
      refine WS_cond (t := false) (by simp [hs, hsg, hn]) (fun h => by cases h) (fun _ => ?_)
      refine WS_skip ?_; simp [hs, hsg, hn]
      refine WS_seq (WS_reg [] ?_); simp [hs, hsg, hn]
      refine callK gd ?_; simp [hs, hsg, hn]
      refine WS_seq (WS_reg [] ?_); simp [hs, hsg, hn]
      refine callK ex1 ?_; simp [hs, hsg, hn]
      refine WS_seq (WS_reg [] ?_); simp [hs, hsg, hn]
      refine callK ex2 ?_; simp [hs, hsg, hn]
      refine WS_seq (WS_seq (WS_reg [] ?_)); simp [hs, hsg, hn]
      refine WS_cond (t := false) (by simp [hs, hsg, hn]) (fun h => by cases h) (fun _ => ?_)
      refine WS_skip ?_; simp [hs, hsg, hn]
      refine WS_seq (WS_reg [] ?_); simp [hs, hsg, hn]
      refine WS_ret ?_; simp [hs, hsg, hn]

set_option maxHeartbeats 1000000 in
theorem rmake {k : Nat} {v w : V} {x y : Int} (hv : IsZ k v x) (hw : IsZ k w y) (hk : k ≤ 2 ^ 33) : Spec Tryz.prog f_ref03_Make [v, w] (· = makeR x y) := by
  have sg := rsign hw (by omega)
  have gd := rgcd hv hw hk
  have q1 := hv.zlen
  have q2 := hw.zlen
  have gl := gcd_len q1 q2
  have ex1 := fun h => rdivz hv (isZ_of gl) (by omega) h
  have ex2 := fun h => rdivz hw (isZ_of gl) (by omega) h
  have ql := zlen_ediv x (Int.gcd x y : Int)
  obtain ⟨n1, l1, rfl, h1, rfl⟩ := hv
  obtain ⟨n2, l2, rfl, h2, rfl⟩ := hw
  obtain ⟨x, hx⟩ : ∃ x, x = zi n1 l1 := ⟨_, rfl⟩
  obtain ⟨y, hy⟩ : ∃ x, x = zi n2 l2 := ⟨_, rfl⟩
  rw [← hx, ← hy] at gd gl ex1 ex2 ql ⊢
  rw [← hy] at sg q2
  rw [← hx] at q1
  refine spec_at Tryz.func74 ok_ref03_Make [] rfl (by simp) ?_
  unfold sc_ref03_Make
  by_cases h0 : y = 0
  · rw [makeR, if_pos h0]
    rw [h0, Int.sign_zero] at sg
    refine WS_seq (WS_reg [] ?_); simp [uL_nil]
    refine WS_seq (WS_seq (WS_reg [] ?_)); simp [uL_nil]
    refine callK sg ?_; simp [uL_nil]
    refine WS_cond (t := true) (by simp [uL_nil]) (fun _ => ?_) (fun h => by cases h)
    refine WS_seq (WS_reg [] ?_); simp [uL_nil]
    refine WS_ret ?_; simp [uL_nil]
  · have hs : y.sign ≠ 0 := by rw [Ne, Int.sign_eq_zero_iff_zero]; exact h0
    have g0 := gcd_ne (x := x) h0
    have ex1 := ex1 g0
    have ex2 := ex2 g0
    have hn := divInt_num (x := x) h0
    have hd := divInt_den (x := x) h0
    have hsg := zn_div (x := x) h0
    have ng := rneg (isZ_of (x := x / (Int.gcd x y : Int)) (k := k) (by omega)) (by omega)
    rw [makeR, if_neg h0]
    have hz : qd (Rat.divInt x y).den = zl (y / (Int.gcd x y : Int)) := by rw [qd, hd]; rfl
    rw [Q_eq, hz]
    obtain ⟨p, hp⟩ : ∃ p, p = (Rat.divInt x y).num := ⟨_, rfl⟩
    rw [← hp] at hn ⊢
    obtain ⟨g, hg⟩ : ∃ g : Int, g = (Int.gcd x y : Int) := ⟨_, rfl⟩
    rw [← hg] at gd ex1 ex2 hn hsg ng ⊢
    by_cases hneg : y < 0
    · rw [if_pos hneg] at hn
      rw [← hn] at ng
      rw [decide_eq_true hneg] at hsg
      refine WS_seq (WS_reg [] ?_); simp [hs, hsg]
      refine WS_seq (WS_seq (WS_reg [] ?_)); simp [hs, hsg]
      refine callK sg ?_; simp [hs, hsg]
      refine WS_cond (t := false) (by simp [hs, hsg]) (fun h => by cases h) (fun _ => ?_)
      refine WS_skip ?_; simp [hs, hsg]
      refine WS_seq (WS_reg [] ?_); simp [hs, hsg]
      refine callK gd ?_; simp [hs, hsg]
      refine WS_seq (WS_reg [] ?_); simp [hs, hsg]
      refine callK ex1 ?_; simp [hs, hsg]
      refine WS_seq (WS_reg [] ?_); simp [hs, hsg]
      refine callK ex2 ?_; simp [hs, hsg]
      refine WS_seq (WS_seq (WS_reg [] ?_)); simp [hs, hsg]
      refine WS_cond (t := true) (by simp [hs, hsg]) (fun _ => ?_) (fun h => by cases h)
      refine WS_reg [] ?_; simp [hs, hsg]
      refine callK ng ?_; simp [hs, hsg]
      refine WS_seq (WS_reg [] ?_); simp [hs, hsg]
      refine WS_ret ?_; simp [hs, hsg]
    · rw [if_neg hneg] at hn
      rw [decide_eq_false hneg] at hsg
      refine WS_seq (WS_reg [] ?_); simp [hs, hsg, hn]
      refine WS_seq (WS_seq (WS_reg [] ?_)); simp [hs, hsg, hn]
      refine callK sg ?_; simp [hs, hsg, hn]
      refine WS_cond (t := false) (by simp [hs, hsg, hn]) (fun h => by cases h) (fun _ => ?_)
      refine WS_skip ?_; simp [hs, hsg, hn]
      refine WS_seq (WS_reg [] ?_); simp [hs, hsg, hn]
      refine callK gd ?_; simp [hs, hsg, hn]
      refine WS_seq (WS_reg [] ?_); simp [hs, hsg, hn]
      refine callK ex1 ?_; simp [hs, hsg, hn]
      refine WS_seq (WS_reg [] ?_); simp [hs, hsg, hn]
      refine callK ex2 ?_; simp [hs, hsg, hn]
      refine WS_seq (WS_seq (WS_reg [] ?_)); simp [hs, hsg, hn]
      refine WS_cond (t := false) (by simp [hs, hsg, hn]) (fun h => by cases h) (fun _ => ?_)
      refine WS_skip ?_; simp [hs, hsg, hn]
      refine WS_seq (WS_reg [] ?_); simp [hs, hsg, hn]
      refine WS_ret ?_; simp [hs, hsg, hn]

end Go.Vw
set_option linter.unusedVariables false
set_option linter.unusedSimpArgs false
namespace Go.Vw
open Go.Proofs

theorem qd_one : qd 1 = [1] := by rw [qd, Nm.dig_pos (by omega) (by omega), Nat.mod_eq_of_lt (by omega), Nat.div_eq_of_lt (by omega), Nm.dig_zero]
theorem qd_dl (n : Nat) : Nm.Dl 18446744073709551616 (qd n) := Nm.dig_lt (by omega) _
theorem qd_val (n : Nat) : Nm.val 18446744073709551616 (qd n) = n := Nm.val_dig (by omega) _
theorem qd_len (n : Nat) : (qd n).length = zlen (n : Int) := by rw [qd_zl]; rfl
theorem isQ_mk {k : Nat} {p : Int} {D : Nat} (hp : zlen p ≤ k) (hD : zlen (D : Int) ≤ k) : IsQ k (rv (zn p) (zl p) (qd D)) (mkRat p D) :=
  ⟨zn p, zl p, qd D, rfl, ⟨zl_dl _, hp⟩, ⟨qd_dl _, by rw [qd_len]; exact hD⟩, by rw [rq, zi_Z, qd_val]⟩
theorem Q_int (n : Int) : Q (n : Rat) = rv (zn n) (zl n) [1] := by
  show rv (zn n) (zl n) (qd 1) = _
  rw [qd_one]
def wholeR (q : Rat) : List RV := if q.den = 1 then [.pure (Z q.num), .pure (.b true)] else [.pure (Z 0), .pure (.b false)]
def divR (q r : Rat) : List RV := if r = 0 then [.pure (rv false [] []), .pure (.i .i64 3)] else [.pure (Q (q / r)), .pure (.i .i64 0)]

attribute [local simp] RunL_cons RunL_nil AOp_none AOp_some acK_v acK_call agK_tt agK_ff agK_tf agK_ft agK_tup agK_i aop aun St.ev St.heap St.put thenQ blockQ scopeQ upd_apply S0 argSlot lowV V.cells V.isAgg V.fits V.part partOk plains St.ret retSV svOf svsOf retQ retP retAll retOne uL_length uL_get? uL_get St.elems retH ownIdx ownAt
attribute [local simp] RunD_none RunD_some RunD_nil RunE_any acD_v acD_call agD_tt agD_ff agD_tf agD_ft agD_tup entsOf svref SO.opds SO.writes SO.makes callEnt pureSV pureOf RV.isOwn
attribute [local simp] abin_add abin_sub abin_mul abin_quo abin_rem abin_eql abin_neq abin_lss abin_leq abin_gtr abin_geq
attribute [local simp] uL_snoc uL_set uL_take uL_drop uL_append uL_replicate uL_nil
attribute [local simp] acK_callG acD_callG St.giv gsSV gvSV retEnts ownEnts SO.still
attribute [local simp] S0G argSlotG givSV retQG retPG retAllG retOneG HObj.width V.scalar trimQ V.byte
attribute [local simp] zv V.fits fillOk fillV Z_eq rv Q_eq
theorem qden {k : Nat} {n : Bool} {l d : List Nat} (h : ZW k d) (hk : k ≤ 2 ^ 40) : Spec Tryz.prog f_rat_den [rv n l d] (· = [.pure (Z (Nm.val 18446744073709551616 d : Int))]) := by
  have nm := znorm (isZ_zv (n := false) h) hk
  rw [show zi false d = (Nm.val 18446744073709551616 d : Int) by simp [zi]] at nm
  refine spec_at Tryz.func86 ok_rat_den [] rfl (by simp) ?_
  unfold sc_rat_den
  refine WS_seq (WS_reg [] ?_); simp
  refine WS_seq (WS_reg [] ?_); simp
  refine callK nm ?_; simp
  refine WS_ret ?_; simp
theorem qden_Q {k : Nat} {q : Rat} (h : QL k q) (hk : k ≤ 2 ^ 40) : Spec Tryz.prog f_rat_den [Q q] (· = [.pure (Z (q.den : Int))]) := by
  have := qden (n := zn q.num) (l := zl q.num) (d := qd q.den) (k := k) ⟨qd_dl _, by rw [qd_len]; exact h.den⟩ hk
  rwa [qd_val] at this
theorem qof (n : Int) (h1 : -9223372036854775808 ≤ n) (h2 : n ≤ 9223372036854775807) : Spec Tryz.prog f_rat_Of [.i .i64 n] (· = [.pure (Q (n : Rat))]) := by
  have zo := zof n h1 h2
  rw [Q_int]
  have e1 : uL [1] = [V.i .u64 1] := rfl
  refine spec_at Tryz.func88 ok_rat_Of [] rfl (by simp) ?_
  unfold sc_rat_Of
  refine WS_seq (WS_reg [] ?_); simp [e1]
  refine WS_seq (WS_reg [] ?_); simp [e1]
  refine callK zo ?_; simp [e1]
  refine WS_ret ?_; simp [e1]
theorem qnorm {k : Nat} {v : V} {q : Rat} (hv : IsQ k v q) (hk : k ≤ 2 ^ 33) : Spec Tryz.prog f_rat_Norm [v] (· = [.pure (Q q)]) := by
  obtain ⟨n, l, d, rfl, h1, h2, rfl⟩ := hv
  have dn := qden (n := n) (l := l) h2 (by omega)
  have iz := (isZ_zv (n := false) h2).zlen
  rw [show zi false d = (Nm.val 18446744073709551616 d : Int) by simp [zi]] at iz
  have mk := zmake (isZ_zv (n := n) h1) (isZ_of iz) hk
  have o0 := qof 0 (by omega) (by omega)
  rw [Rat.intCast_zero] at o0
  have hq : rq n l d = mkRat (zi n l) (Nm.val 18446744073709551616 d) := rfl
  obtain ⟨D, hD⟩ : ∃ D, D = Nm.val 18446744073709551616 d := ⟨_, rfl⟩
  rw [← hD] at dn mk hq
  obtain ⟨r, hr⟩ : ∃ r, r = rq n l d := ⟨_, rfl⟩
  rw [← hr] at hq ⊢
  refine spec_at Tryz.func33 ok_rat_Norm [] rfl (by simp) ?_
  unfold sc_rat_Norm
  by_cases h0 : D = 0
  · subst h0
    rw [Rat.mkRat_zero] at hq
    rw [makeR, if_pos (by rfl)] at mk
    subst hq
    refine WS_seq (WS_reg [] ?_); simp
    refine WS_seq (WS_regD [] ?_); simp
    refine callD dn rfl ?_; simp
    refine callD mk rfl ?_; simp
    refine ⟨rfl, ?_⟩
    refine WS_seq (WS_seq (WS_reg [] ?_)); simp
    refine WS_cond (t := true) (by simp) (fun _ => ?_) (fun h => by cases h)
    refine WS_seq (WS_reg [] ?_); simp
    refine callK o0 ?_; simp
    refine WS_ret ?_; simp
  · rw [makeR, if_neg (by omega), Rat.divInt_ofNat, ← hq] at mk
    refine WS_seq (WS_reg [] ?_); simp
    refine WS_seq (WS_regD [] ?_); simp
    refine callD dn rfl ?_; simp
    refine callD mk rfl ?_; simp
    refine ⟨rfl, ?_⟩
    refine WS_seq (WS_seq (WS_reg [] ?_)); simp
    refine WS_cond (t := false) (by simp) (fun h => by cases h) (fun _ => ?_)
    refine WS_skip ?_; simp
    refine WS_seq (WS_reg [] ?_); simp
    refine WS_ret ?_; simp
theorem qsign {k : Nat} {v : V} {q : Rat} (hv : IsQ k v q) (hk : k ≤ 2 ^ 33) : Spec Tryz.prog f_rat_Sign [v] (· = [.pure (.i .i64 q.num.sign)]) := by
  have nm := qnorm hv hk
  have ql := hv.ql
  have sg := zsign (isZ_of ql.num) (by omega)
  obtain ⟨n, l, d, rfl, h1, h2, hq⟩ := hv
  refine spec_at Tryz.func45 ok_rat_Sign [] rfl (by simp) ?_
  unfold sc_rat_Sign
  refine WS_seq (WS_reg [] ?_); simp
  refine WS_seq (WS_reg [] ?_); simp
  refine callK nm ?_; simp
  refine callK sg ?_; simp
  refine WS_ret ?_; simp

theorem nmul_Q {k : Nat} {q r : Rat} (hq : QL k q) (hr : QL k r) (hk : k ≤ 2 ^ 28) : Spec Tryz.prog f_nat_Mul [U (qd q.den), U (qd r.den)] (· = [.pure (U (qd (q.den * r.den)))]) := by
  have h := nmul_spec (max (Nm.trim (qd q.den)).length (Nm.trim (qd r.den)).length) (qd q.den) (qd r.den) (qd_dl _) (qd_dl _) (by rw [qd_len]; have := hq.den; omega) (by rw [qd_len]; have := hr.den; omega) (by omega) (by omega)
  rw [qd_val, qd_val] at h
  exact h
theorem qmul_mk (q r : Rat) : mkRat (q.num * r.num) (q.den * r.den) = q * r := by
  rw [← Rat.mkRat_mul_mkRat, Rat.mkRat_self, Rat.mkRat_self]
theorem natlen_mul (a b : Nat) : zlen ((a * b : Nat) : Int) ≤ zlen (a : Int) + zlen (b : Int) := by rw [Int.natCast_mul]; exact zlen_mul _ _

theorem qmul {k : Nat} {v w : V} {q r : Rat} (hv : IsQ k v q) (hw : IsQ k w r) (hk : k ≤ 2 ^ 26) : Spec Tryz.prog f_rat_Mul [v, w] (· = [.pure (Q (q * r))]) := by
  have n1 := qnorm hv (by omega)
  have n2 := qnorm hw (by omega)
  have q1 := hv.ql
  have q2 := hw.ql
  have mu := zmul (isZ_of q1.num) (isZ_of q2.num) (by omega)
  have md := nmul_Q q1 q2 (by omega)
  have nm := qnorm (isQ_mk (k := 2 * k + 2) (p := q.num * r.num) (D := q.den * r.den) (by have := zlen_mul q.num r.num; have := q1.num; have := q2.num; omega) (by have := natlen_mul q.den r.den; have := q1.den; have := q2.den; omega)) (by omega)
  rw [qmul_mk] at nm
  obtain ⟨n1', l1, d1, rfl, h1, h1', _⟩ := hv
  obtain ⟨n2', l2, d2, rfl, h2, h2', _⟩ := hw
  refine spec_at Tryz.func39 ok_rat_Mul [] rfl (by simp) ?_
  unfold sc_rat_Mul
  refine WS_seq (WS_reg [] ?_); simp [U]
  refine WS_seq (WS_regD [] ?_); simp [U]
  refine callD n1 rfl ?_; simp [U]
  refine callD n2 rfl ?_; simp [U]
  refine ⟨rfl, ?_⟩
  refine WS_seq (WS_regD [] ?_); simp [U]
  refine callD mu rfl ?_; simp [U]
  refine callD md rfl ?_; simp [U]
  refine callD nm rfl ?_; simp [U]
  refine ⟨rfl, ?_⟩
  refine WS_ret ?_; simp [U]

theorem qdiv_mk {q r : Rat} : Rat.divInt (q.num * r.den) (r.num * q.den) = q / r := by
  rw [Int.mul_comm r.num, ← Rat.divInt_mul_divInt, Rat.num_divInt_den, Rat.div_def, ← Rat.inv_divInt, Rat.num_divInt_den]
theorem qdiv {k : Nat} {v w : V} {q r : Rat} (hv : IsQ k v q) (hw : IsQ k w r) (hk : k ≤ 2 ^ 26) : Spec Tryz.prog f_rat_Div [v, w] (· = divR q r) := by
  have n1 := qnorm hv (by omega)
  have n2 := qnorm hw (by omega)
  have q1 := hv.ql
  have q2 := hw.ql
  have d1 := qden_Q q1 (by omega)
  have d2 := qden_Q q2 (by omega)
  have m1 := zmul (isZ_of q1.num) (isZ_of q2.den) (by omega)
  have m2 := zmul (isZ_of q2.num) (isZ_of q1.den) (by omega)
  have mk := zmake (isZ_of (k := 2 * k + 2) (x := q.num * (r.den : Int)) (by have := zlen_mul q.num r.den; have := q1.num; have := q2.den; omega)) (isZ_of (k := 2 * k + 2) (x := r.num * (q.den : Int)) (by have := zlen_mul r.num q.den; have := q2.num; have := q1.den; omega)) (by omega)
  have hR : makeR (q.num * (r.den : Int)) (r.num * (q.den : Int)) = divR q r := by
    have hd : (q.den : Int) ≠ 0 := by have := q.den_nz; omega
    by_cases h0 : r = 0
    · subst h0
      rw [makeR, if_pos (by rw [Rat.zero_num, Int.zero_mul]), divR, if_pos rfl]
    · rw [makeR, if_neg (by rw [Int.mul_eq_zero]; rintro (h | h); exact h0 (Rat.num_eq_zero.1 h); exact hd h), divR, if_neg h0, qdiv_mk]
  rw [hR] at mk
  have hx : ∃ p e, divR q r = [.pure p, .pure (.i .i64 e)] ∧ ∃ a b c, p = rv a b c := by
    unfold divR
    split
    · exact ⟨_, _, rfl, _, _, _, rfl⟩
    · exact ⟨_, _, rfl, _, _, _, rfl⟩
  obtain ⟨p, e, hp, a, b, c, rfl⟩ := hx
  rw [hp] at mk ⊢
  obtain ⟨n1', l1, d1', rfl, h1, h1', _⟩ := hv
  obtain ⟨n2', l2, d2', rfl, h2, h2', _⟩ := hw
  refine spec_at Tryz.func29 ok_rat_Div [] rfl (by simp) ?_
  unfold sc_rat_Div
  refine WS_seq (WS_reg [] ?_); simp
  refine WS_seq (WS_regD [] ?_); simp
  refine callD n1 rfl ?_; simp
  refine callD n2 rfl ?_; simp
  refine ⟨rfl, ?_⟩
  refine WS_seq (WS_regD [] ?_); simp
  refine callD d2 rfl ?_; simp
  refine callD m1 rfl ?_; simp
  refine callD d1 rfl ?_; simp
  refine callD m2 rfl ?_; simp
  refine callD mk rfl ?_; simp
  refine ⟨rfl, ?_⟩
  refine WS_ret ?_; simp
theorem cmpN_one {n : Nat} (h : n ≠ 0) : (Nm.cmpN n 1 = 0) ↔ n = 1 := by
  unfold Nm.cmpN
  constructor
  · intro h; split at h
    · omega
    · split at h <;> omega
  · rintro rfl; simp
theorem qwhole {k : Nat} {v : V} {q : Rat} (hv : IsQ k v q) (hk : k ≤ 2 ^ 33) : Spec Tryz.prog f_rat_Whole [v] (· = wholeR q) := by
  have nm := qnorm hv hk
  have ql := hv.ql
  have cm := ncmp_spec (qd q.den) [1] (qd_dl _) (by intro x hx; simp at hx; omega) (by rw [qd_len]; have := ql.den; omega) (by simp)
  rw [qd_val, show Nm.val 18446744073709551616 [1] = 1 by simp [Nm.val]] at cm
  have c1 := cmpN_one q.den_nz
  obtain ⟨n, l, d, rfl, h1, h2, _⟩ := hv
  have e1 : U [1] = .sl none [V.i .u64 1] := rfl
  rw [e1] at cm
  refine spec_at Tryz.func31 ok_rat_Whole [] rfl (by simp) ?_
  unfold sc_rat_Whole
  by_cases h : q.den = 1
  · rw [wholeR, if_pos h]
    have c2 := c1.2 h
    rw [c2] at cm
    refine WS_seq (WS_reg [] ?_); simp [U]
    refine WS_seq (WS_reg [] ?_); simp [U]
    refine callK nm ?_; simp [U]
    refine WS_seq (WS_seq (WS_reg [] ?_)); simp [U]
    refine callK cm ?_; simp [U]
    refine WS_cond (t := false) (by simp [U]) (fun h => by cases h) (fun _ => ?_)
    refine WS_skip ?_; simp [U]
    refine WS_seq (WS_reg [] ?_); simp [U]
    refine WS_ret ?_; simp [U]
  · rw [wholeR, if_neg h]
    have c2 : ¬ Nm.cmpN q.den 1 = 0 := fun e => h (c1.1 e)
    refine WS_seq (WS_reg [] ?_); simp [U, c2, Z_zero]
    refine WS_seq (WS_reg [] ?_); simp [U, c2, Z_zero]
    refine callK nm ?_; simp [U, c2, Z_zero]
    refine WS_seq (WS_seq (WS_reg [] ?_)); simp [U, c2, Z_zero]
    refine callK cm ?_; simp [U, c2, Z_zero]
    refine WS_cond (t := true) (by simp [U, c2, Z_zero]) (fun _ => ?_) (fun h => by cases h)
    refine WS_seq (WS_reg [] ?_); simp [U, c2, Z_zero]
    refine WS_ret ?_; simp [U, c2, Z_zero]

end Go.Vw
set_option linter.unusedVariables false
set_option linter.unusedSimpArgs false
namespace Go.Vw
open Go.Proofs

theorem qadd_mk (q r : Rat) : mkRat (q.num * r.den + r.num * q.den) (q.den * r.den) = q + r := by
  rw [← Rat.mkRat_add_mkRat _ _ q.den_nz r.den_nz, Rat.mkRat_self, Rat.mkRat_self]
theorem qsub_mk (q r : Rat) : mkRat (q.num * r.den - r.num * q.den) (q.den * r.den) = q - r := by
  rw [Rat.sub_eq_add_neg, ← qadd_mk, Rat.neg_num, Rat.neg_den, Int.neg_mul, Int.sub_eq_add_neg]

attribute [local simp] RunL_cons RunL_nil AOp_none AOp_some acK_v acK_call agK_tt agK_ff agK_tf agK_ft agK_tup agK_i aop aun St.ev St.heap St.put thenQ blockQ scopeQ upd_apply S0 argSlot lowV V.cells V.isAgg V.fits V.part partOk plains St.ret retSV svOf svsOf retQ retP retAll retOne uL_length uL_get? uL_get St.elems retH ownIdx ownAt
attribute [local simp] RunD_none RunD_some RunD_nil RunE_any acD_v acD_call agD_tt agD_ff agD_tf agD_ft agD_tup entsOf svref SO.opds SO.writes SO.makes callEnt pureSV pureOf RV.isOwn
attribute [local simp] abin_add abin_sub abin_mul abin_quo abin_rem abin_eql abin_neq abin_lss abin_leq abin_gtr abin_geq
attribute [local simp] uL_snoc uL_set uL_take uL_drop uL_append uL_replicate uL_nil
attribute [local simp] acK_callG acD_callG St.giv gsSV gvSV retEnts ownEnts SO.still
attribute [local simp] S0G argSlotG givSV retQG retPG retAllG retOneG HObj.width V.scalar trimQ V.byte
attribute [local simp] zv V.fits fillOk fillV Z_eq rv Q_eq
theorem qjoin1 {k : Nat} {a b : Int} (ha : zlen a ≤ k) (hb : zlen b ≤ k) (hk : k ≤ 2 ^ 37) (m : Bool) : Spec Tryz.prog f_rat_joined_1 [Z a, Z b, .ref none (.b m)] (· = [.pure (Z (if m then a - b else a + b))]) := by
  have ad := zadd (isZ_of ha) (isZ_of hb) hk
  have sb := zsub (isZ_of ha) (isZ_of hb) hk
  refine spec_at Tryz.func127 ok_rat_joined_1 [] rfl (by simp) ?_
  unfold sc_rat_joined_1
  cases m with
  | true =>
    refine WS_seq (WS_reg [] ?_); simp
    refine WS_seq (WS_seq (WS_reg [] ?_)); simp
    refine WS_cond (t := true) (by simp) (fun _ => ?_) (fun h => by cases h)
    refine WS_seq (WS_reg [] ?_); simp
    refine callK sb ?_; simp
    refine WS_ret ?_; simp
  | false =>
    refine WS_seq (WS_reg [] ?_); simp
    refine WS_seq (WS_seq (WS_reg [] ?_)); simp
    refine WS_cond (t := false) (by simp) (fun h => by cases h) (fun _ => ?_)
    refine WS_skip ?_; simp
    refine WS_seq (WS_reg [] ?_); simp
    refine callK ad ?_; simp
    refine WS_ret ?_; simp

theorem qcrossed {k : Nat} {v w : V} {q r : Rat} (hv : IsQ k v q) (hw : IsQ k w r) (hk : k ≤ 2 ^ 26) (f : Nat) (caps : List V) (c : Int)
    (hf : Spec Tryz.prog f (Z (q.num * (r.den : Int)) :: Z (r.num * (q.den : Int)) :: caps) (· = [.pure (Z c)])) (hc : zlen c ≤ 2 * k + 3) :
    Spec Tryz.prog f_rat_crossed [v, w, .clo f caps] (· = [.pure (Q (mkRat c (q.den * r.den)))]) := by
  have n1 := qnorm hv (by omega)
  have n2 := qnorm hw (by omega)
  have q1 := hv.ql
  have q2 := hw.ql
  have d1 := qden_Q q1 (by omega)
  have d2 := qden_Q q2 (by omega)
  have m1 := zmul (isZ_of q1.num) (isZ_of q2.den) (by omega)
  have m2 := zmul (isZ_of q2.num) (isZ_of q1.den) (by omega)
  have md := nmul_Q q1 q2 (by omega)
  have nm := qnorm (isQ_mk (k := 2 * k + 3) (p := c) (D := q.den * r.den) hc (by have := natlen_mul q.den r.den; have := q1.den; have := q2.den; omega)) (by omega)
  obtain ⟨n1', l1, d1', rfl, h1, h1', _⟩ := hv
  obtain ⟨n2', l2, d2', rfl, h2, h2', _⟩ := hw
  refine spec_at Tryz.func126 ok_rat_crossed [] rfl (by simp) ?_
  unfold sc_rat_crossed
  refine WS_seq (WS_reg [] ?_); simp [U]
  refine WS_seq (WS_regD [] ?_); simp [U]
  refine callD n1 rfl ?_; simp [U]
  refine callD n2 rfl ?_; simp [U]
  refine ⟨rfl, ?_⟩
  refine WS_seq (WS_regD [] ?_); simp [U]
  refine callD d2 rfl ?_; simp [U]
  refine callD m1 rfl ?_; simp [U]
  refine callD d1 rfl ?_; simp [U]
  refine callD m2 rfl ?_; simp [U]
  refine callD hf rfl ?_; simp [U]
  refine ⟨rfl, ?_⟩
  refine WS_seq (WS_regD [] ?_); simp [U]
  refine callD md rfl ?_; simp [U]
  refine callD nm rfl ?_; simp [U]
  refine ⟨rfl, ?_⟩
  refine WS_ret ?_; simp [U]

theorem qjoined {k : Nat} {v w : V} {q r : Rat} (hv : IsQ k v q) (hw : IsQ k w r) (hk : k ≤ 2 ^ 26) (m : Bool) : Spec Tryz.prog f_rat_joined [v, w, .b m] (· = [.pure (Q (if m then q - r else q + r))]) := by
  have q1 := hv.ql
  have q2 := hw.ql
  have l1 : zlen (q.num * (r.den : Int)) ≤ 2 * k + 2 := by have := zlen_mul q.num r.den; have := q1.num; have := q2.den; omega
  have l2 : zlen (r.num * (q.den : Int)) ≤ 2 * k + 2 := by have := zlen_mul r.num q.den; have := q2.num; have := q1.den; omega
  have cr := qcrossed hv hw hk f_rat_joined_1 [.ref none (.b m)] _ (qjoin1 l1 l2 (by omega) m) (by
    have a1 := zlen_add (q.num * (r.den : Int)) (r.num * (q.den : Int))
    have a2 := zlen_sub (q.num * (r.den : Int)) (r.num * (q.den : Int))
    split <;> omega)
  have e : mkRat (if m = true then q.num * (r.den : Int) - r.num * (q.den : Int) else q.num * (r.den : Int) + r.num * (q.den : Int)) (q.den * r.den) = if m = true then q - r else q + r := by
    split
    · exact qsub_mk q r
    · exact qadd_mk q r
  rw [e] at cr
  obtain ⟨z, hz⟩ : ∃ z, z = (if m = true then q - r else q + r) := ⟨_, rfl⟩
  rw [← hz] at cr ⊢
  obtain ⟨n1', l1, d1', rfl, h1, h1', _⟩ := hv
  obtain ⟨n2', l2, d2', rfl, h2, h2', _⟩ := hw
  refine spec_at Tryz.func90 ok_rat_joined [] rfl (by simp) ?_
  unfold sc_rat_joined
  refine WS_seq (WS_reg [] ?_); simp
  refine WS_frz 5 5 none ?_
  simp [frzQ]
  refine WS_seq (WS_reg [] ?_); simp
  refine callK cr ?_; simp
  refine WS_ret ?_; simp

theorem qadd {k : Nat} {v w : V} {q r : Rat} (hv : IsQ k v q) (hw : IsQ k w r) (hk : k ≤ 2 ^ 26) : Spec Tryz.prog f_rat_Add [v, w] (· = [.pure (Q (q + r))]) := by
  have jn := qjoined hv hw hk false
  rw [if_neg (by simp)] at jn
  obtain ⟨n1', l1, d1', rfl, h1, h1', _⟩ := hv
  obtain ⟨n2', l2, d2', rfl, h2, h2', _⟩ := hw
  refine spec_at Tryz.func35 ok_rat_Add [] rfl (by simp) ?_
  unfold sc_rat_Add
  refine WS_seq (WS_reg [] ?_); simp
  refine WS_seq (WS_reg [] ?_); simp
  refine callK jn ?_; simp
  refine WS_ret ?_; simp
theorem qsub {k : Nat} {v w : V} {q r : Rat} (hv : IsQ k v q) (hw : IsQ k w r) (hk : k ≤ 2 ^ 26) : Spec Tryz.prog f_rat_Sub [v, w] (· = [.pure (Q (q - r))]) := by
  have jn := qjoined hv hw hk true
  rw [if_pos rfl] at jn
  obtain ⟨n1', l1, d1', rfl, h1, h1', _⟩ := hv
  obtain ⟨n2', l2, d2', rfl, h2, h2', _⟩ := hw
  refine spec_at Tryz.func37 ok_rat_Sub [] rfl (by simp) ?_
  unfold sc_rat_Sub
  refine WS_seq (WS_reg [] ?_); simp
  refine WS_seq (WS_reg [] ?_); simp
  refine callK jn ?_; simp
  refine WS_ret ?_; simp

theorem ql_add {k : Nat} {q r : Rat} (h1 : QL k q) (h2 : QL k r) : QL (2 * k + 2) (q + r) := by
  rw [← qadd_mk]
  refine mkRat_len (k := 2 * k + 1) ?_ ?_
  · have a1 := zlen_add (q.num * (r.den : Int)) (r.num * (q.den : Int))
    have := zlen_mul q.num r.den
    have := zlen_mul r.num q.den
    have := h1.num; have := h1.den; have := h2.num; have := h2.den
    omega
  · have := natlen_mul q.den r.den; have := h1.den; have := h2.den; omega
theorem ql_sub {k : Nat} {q r : Rat} (h1 : QL k q) (h2 : QL k r) : QL (2 * k + 2) (q - r) := by
  rw [← qsub_mk]
  refine mkRat_len (k := 2 * k + 1) ?_ ?_
  · have a1 := zlen_sub (q.num * (r.den : Int)) (r.num * (q.den : Int))
    have := zlen_mul q.num r.den
    have := zlen_mul r.num q.den
    have := h1.num; have := h1.den; have := h2.num; have := h2.den
    omega
  · have := natlen_mul q.den r.den; have := h1.den; have := h2.den; omega
theorem ql_mul {k : Nat} {q r : Rat} (h1 : QL k q) (h2 : QL k r) : QL (2 * k + 1) (q * r) := by
  rw [← qmul_mk]
  refine mkRat_len (k := 2 * k) ?_ ?_
  · have := zlen_mul q.num r.num; have := h1.num; have := h2.num; omega
  · have := natlen_mul q.den r.den; have := h1.den; have := h2.den; omega
theorem ql_div {k : Nat} {q r : Rat} (h1 : QL k q) (h2 : QL k r) : QL (2 * k + 1) (q / r) := by
  rw [← qdiv_mk]
  refine divInt_len (k := 2 * k) ?_ ?_
  · have := zlen_mul q.num r.den; have := h1.num; have := h2.den; omega
  · have := zlen_mul r.num q.den; have := h1.den; have := h2.num; omega

theorem qcmp {k : Nat} {v w : V} {q r : Rat} (hv : IsQ k v q) (hw : IsQ k w r) (hk : k ≤ 2 ^ 26) : Spec Tryz.prog f_rat_Cmp [v, w] (· = [.pure (.i .i64 (q - r).num.sign)]) := by
  have sb := qsub hv hw hk
  have sg := qsign (isQ_Q (ql_sub hv.ql hw.ql)) (by omega)
  obtain ⟨n1', l1, d1', rfl, h1, h1', _⟩ := hv
  obtain ⟨n2', l2, d2', rfl, h2, h2', _⟩ := hw
  refine spec_at Tryz.func43 ok_rat_Cmp [] rfl (by simp) ?_
  unfold sc_rat_Cmp
  refine WS_seq (WS_reg [] ?_); simp
  refine WS_seq (WS_reg [] ?_); simp
  refine callK sb ?_; simp
  refine callK sg ?_; simp
  refine WS_ret ?_; simp

/-- Two plain fractions are the same. -/
theorem qsame (n : Bool) (l d : List Nat) (hl : l.length ≤ 2 ^ 40) (hd : d.length ≤ 2 ^ 40) : Spec Tryz.prog f_ref03_Same [rv n l d, rv n l d] (· = [.pure (.b true)]) := by
  have s2 := rsame_spec l hl
  have s3 := rsame_spec d hd
  have sm : Spec Tryz.prog f_ref02_Same [zv n l, zv n l] (· = [.pure (.b true)]) := by
    refine spec_at Tryz.func47 ok_ref02_Same [] rfl (by simp) ?_
    unfold sc_ref02_Same
    refine WS_seq (WS_reg [] ?_); simp [U]
    refine WS_seq (WS_reg [] ?_); simp [U]
    refine callK s2 ?_; simp [U]
    refine WS_ret ?_; simp [U]
  refine spec_at Tryz.func15 ok_ref03_Same [] rfl (by simp) ?_
  unfold sc_ref03_Same
  refine WS_seq (WS_reg [] ?_); simp [U]
  refine WS_seq (WS_reg [] ?_); simp [U]
  refine callK sm ?_; simp [U]
  refine callK s3 ?_; simp [U]
  refine WS_ret ?_; simp [U]
theorem rof3 (n : Int) (h1 : -9223372036854775808 ≤ n) (h2 : n ≤ 9223372036854775807) : Spec Tryz.prog f_ref03_Of [.i .i64 n] (· = [.pure (Q (n : Rat))]) := by
  have zo := rof n h1 h2
  rw [Q_int]
  have e1 : uL [1] = [V.i .u64 1] := rfl
  refine spec_at Tryz.func125 ok_ref03_Of [] rfl (by simp) ?_
  unfold sc_ref03_Of
  refine WS_seq (WS_reg [] ?_); simp [e1]
  refine WS_seq (WS_reg [] ?_); simp [e1]
  refine callK zo ?_; simp [e1]
  refine WS_ret ?_; simp [e1]

end Go.Vw
set_option linter.unusedVariables false
set_option linter.unusedSimpArgs false
namespace Go.Vw
open Go.Proofs

/-- Where the first stroke stands, or -1. -/
def strokeAt (l : List UInt8) : Int := Go.Lib.indexByte l 47
theorem strokeAt_cons (c : UInt8) (l : List UInt8) : strokeAt (c :: l) = if c = 47 then 0 else if strokeAt l = -1 then -1 else strokeAt l + 1 := by
  unfold strokeAt
  rw [Go.Lib.indexByte]
  by_cases h : c = 47
  · simp [h]
  · simp [h]
theorem strokeAt_facts : ∀ l : List UInt8, strokeAt l = -1 ∧ (47 : UInt8) ∉ l ∨ ∃ (a b : List UInt8), l = a ++ 47 :: b ∧ (47 : UInt8) ∉ a ∧ strokeAt l = (a.length : Int)
  | [] => .inl ⟨rfl, by simp⟩
  | c :: l => by
    rw [strokeAt_cons]
    by_cases h : c = 47
    · subst h
      exact .inr ⟨[], l, rfl, by simp, by simp⟩
    · rw [if_neg h]
      rcases strokeAt_facts l with ⟨h1, h2⟩ | ⟨a, b, h1, h2, h3⟩
      · rw [if_pos h1]
        exact .inl ⟨rfl, by simp [h2, Ne.symm h]⟩
      · rw [if_neg (by omega)]
        refine .inr ⟨c :: a, b, by rw [h1]; rfl, by simp [h2, Ne.symm h], by rw [h3]; simp⟩

theorem spec_extern_si {P : Program} {f : FuncId} {fn : Func} {e : Array Value → Sem Value} (hf : P.funcs[f]? = some fn) (hname : (fn.name == "runtime.NumGoroutine") = false)
    (hb : fn.body.isNone = true) (hn : Extern.findNext fn = none) (he : Extern.find fn = some e) (s : ByteArray) (k : IntKind) (c : Int) (k' : IntKind) (r : Int)
    (hrun : ∀ w, (e #[.string s, .int k c]).run P w = .ok (.int k' r) w) : Spec P f [.s s, .i k c] (· = [.pure (.i k' r)]) := by
  intro w ok vals hok hrel
  have hv : vals = #[.string s, .int k c] := by
    obtain ⟨hs, hr⟩ := hrel
    have h0 := hr 0 (by simp)
    have h1 := hr 1 (by simp)
    match vals, hs with
    | ⟨[a, b]⟩, _ =>
      simp at h0 h1
      cases h0
      cases h1
      rfl
  subst hv
  refine .inr ⟨.int k' r, ?_, [.pure (.i k' r)], [.int k' r], rfl, rfl, Go.RowKit.Below.refl _ _, ⟨by simp, fun j rv hj => ?_, fun j k x y b hj hk hx => ?_⟩⟩
  · rw [run_callFunc_extern hf hname hb hn he, hrun]; rfl
  · cases j with
    | zero =>
      simp at hj
      subst hj
      exact .i _ _
    | succ j => simp at hj
  · cases j with
    | zero =>
      simp at hj
      subst hj
      cases hx
    | succ j => simp at hj

theorem indexByteString_spec (l : List UInt8) : Spec Tryz.prog 167 [tx l, .i .u8 47] (· = [.pure (.i .i64 (strokeAt l))]) :=
  spec_extern_si (P := Tryz.prog) (f := 167) (fn := Tryz.f167) Tryz.func167 (by kernel_rfl) (by kernel_rfl) (by kernel_rfl) (by kernel_rfl) _ _ _ _ _ (fun w => Go.Lib.run_indexByteString _ 47 w)

attribute [local simp] RunL_cons RunL_nil AOp_none AOp_some acK_v acK_call agK_tt agK_ff agK_tf agK_ft agK_tup agK_i aop aun St.ev St.heap St.put thenQ blockQ scopeQ upd_apply S0 argSlot lowV V.cells V.isAgg V.fits V.part partOk plains St.ret retSV svOf svsOf retQ retP retAll retOne uL_length uL_get? uL_get St.elems retH ownIdx ownAt
attribute [local simp] RunD_none RunD_some RunD_nil RunE_any acD_v acD_call agD_tt agD_ff agD_tf agD_ft agD_tup entsOf svref SO.opds SO.writes SO.makes callEnt pureSV pureOf RV.isOwn
attribute [local simp] abin_add abin_sub abin_mul abin_quo abin_rem abin_eql abin_neq abin_lss abin_leq abin_gtr abin_geq
attribute [local simp] uL_snoc uL_set uL_take uL_drop uL_append uL_replicate uL_nil
attribute [local simp] acK_callG acD_callG St.giv gsSV gvSV retEnts ownEnts SO.still
attribute [local simp] S0G argSlotG givSV retQG retPG retAllG retOneG HObj.width V.scalar trimQ V.byte
attribute [local simp] zv V.fits fillOk fillV Z_eq rv Q_eq
theorem index1_spec (l : List UInt8) (hl : l.length ≤ 2 ^ 40) : Spec Tryz.prog f_stringslite_Index [tx l, tx [47]] (· = [.pure (.i .i64 (strokeAt l))]) := by
  have ib : Spec Tryz.prog f_stringslite_IndexByte [tx l, .i .u8 47] (· = [.pure (.i .i64 (strokeAt l))]) := by
    have ib := indexByteString_spec l
    refine spec_at Tryz.func160 ok_stringslite_IndexByte [] rfl (by simp) ?_
    unfold sc_stringslite_IndexByte
    refine WS_seq (WS_reg [] ?_); simp [tx]
    refine WS_seq (WS_reg [] ?_); simp [tx]
    refine callK ib ?_; simp [tx]
    refine WS_ret ?_; simp [tx]
  refine spec_at Tryz.func149 ok_stringslite_Index [] rfl (by simp) ?_
  unfold sc_stringslite_Index
  by_cases h : [47] = l
  · subst h
    have e : strokeAt [47] = 0 := rfl
    rw [e]
    refine WS_seq (WS_reg [] ?_); simp [tx, bmk_size, abin_seql, bmk_list]
    refine WS_seq (WS_reg [] ?_); simp [tx, bmk_size, abin_seql, bmk_list]
    refine WS_seq (WS_block (WS_seq (WS_reg [] ?_))); simp [tx, bmk_size, abin_seql, bmk_list]
    refine WS_cond (t := true) (by simp [tx, bmk_size, abin_seql, bmk_list]) (fun _ => ?_) (fun h => by cases h)
    refine WS_seq (WS_reg [] ?_); simp [tx, bmk_size, abin_seql, bmk_list]
    refine WS_ret ?_; simp [tx, bmk_size, abin_seql, bmk_list]
  · have h' : ([47] == l) = false := by simpa using h
    refine WS_seq (WS_reg [] ?_); simp [tx, bmk_size, abin_seql, bmk_list, h']
    refine WS_seq (WS_reg [] ?_); simp [tx, bmk_size, abin_seql, bmk_list, h']
    refine WS_seq (WS_block (WS_seq (WS_reg [] ?_))); simp [tx, bmk_size, abin_seql, bmk_list, h']
    refine WS_cond (t := false) (by simp [tx, bmk_size, abin_seql, bmk_list, h']) (fun h => by cases h) (fun _ => ?_)
    refine WS_seq (WS_reg [] ?_); simp [tx, bmk_size, abin_seql, bmk_list, h']
    refine WS_cond (t := true) (by simp [tx, bmk_size, abin_seql, bmk_list, h']) (fun _ => ?_) (fun h => by cases h)
    refine WS_seq (WS_reg [] ?_); simp [tx, bmk_size, abin_seql, bmk_list, h']
    refine callK ib ?_; simp [tx, bmk_size, abin_seql, bmk_list, h']
    refine WS_ret ?_; simp [tx, bmk_size, abin_seql, bmk_list, h']

end Go.Vw
set_option linter.unusedVariables false
set_option linter.unusedSimpArgs false
namespace Go.Vw
open Go.Proofs

/-- A text, cut at its first stroke; '1' below where there is none. -/
def cutL (l : List UInt8) : List UInt8 × List UInt8 := if strokeAt l = -1 then (l, [49]) else (l.take (strokeAt l).toNat, l.drop ((strokeAt l).toNat + 1))
theorem strokeAt_mid {a b : List UInt8} (h : (47 : UInt8) ∉ a) : strokeAt (a ++ 47 :: b) = (a.length : Int) := by
  induction a with
  | nil => rw [List.nil_append, strokeAt_cons, if_pos rfl]; rfl
  | cons c a ih =>
    simp only [List.mem_cons, not_or] at h
    rw [List.cons_append, strokeAt_cons, if_neg (fun e => h.1 e.symm), ih h.2, if_neg (by omega)]
    simp
theorem strokeAt_not {a : List UInt8} (h : (47 : UInt8) ∉ a) : strokeAt a = -1 := by
  rcases strokeAt_facts a with ⟨h1, _⟩ | ⟨x, y, h1, _, _⟩
  · exact h1
  · exact absurd (by rw [h1]; simp) h
theorem cutL_mid {a b : List UInt8} (h : (47 : UInt8) ∉ a) : cutL (a ++ 47 :: b) = (a, b) := by
  rw [cutL, strokeAt_mid h, if_neg (by omega)]
  simp
theorem cutL_not {a : List UInt8} (h : (47 : UInt8) ∉ a) : cutL a = (a, [49]) := by rw [cutL, strokeAt_not h, if_pos rfl]

/-- The digits of a fraction. -/
def qT (q : Rat) : List UInt8 := if q.den = 1 then zT q.num else zT q.num ++ 47 :: Nm.decT q.den
/-- The fraction of a text. -/
def qP (s : List UInt8) : Option Rat :=
  match zP (cutL s).1, parseV (cutL s).2 with
  | some n, some d => if qT (mkRat n d) = s then some (mkRat n d) else none
  | _, _ => none
def qPR : Option Rat → List RV
  | none => [.pure (rv false [] []), .pure (.i .i64 2)]
  | some r => [.pure (Q r), .pure (.i .i64 0)]

theorem bmk_cat (a b : List UInt8) (h : a.length + b.length ≤ 2 ^ 60) : abin .add (.s ⟨a.toArray⟩) (.s ⟨b.toArray⟩) = some (True, .s ⟨(a ++ b).toArray⟩) := by
  rw [abin_cat, bmk_append]
  have hmx : (((⟨a.toArray⟩ : ByteArray).size + (⟨b.toArray⟩ : ByteArray).size : Nat) : Int) ≤ IntKind.i64.max := by
    rw [bmk_size, bmk_size]
    simp [IntKind.max, IntKind.signed, IntKind.bits]; omega
  simp only [hmx]

theorem zT_len {x : Int} {k : Nat} (h : zlen x ≤ k) : (zT x).length ≤ 20 * k + 2 := by
  have := Nm.decT_length (lt_zlen' h)
  unfold zT
  split
  · simp; omega
  · omega
theorem parseV_lim {l : List UInt8} {v : Nat} (h : parseV l = some v) : zlen (v : Int) ≤ 4096 := by
  have h1 := parse_val_lt h
  have h2 := parseV_len h
  have := zlen_lt (z := (v : Int)) (k := l.length) (by rw [Int.natAbs_natCast]; exact h1)
  omega

attribute [local simp] RunL_cons RunL_nil AOp_none AOp_some acK_v acK_call agK_tt agK_ff agK_tf agK_ft agK_tup agK_i aop aun St.ev St.heap St.put thenQ blockQ scopeQ upd_apply S0 argSlot lowV V.cells V.isAgg V.fits V.part partOk plains St.ret retSV svOf svsOf retQ retP retAll retOne uL_length uL_get? uL_get St.elems retH ownIdx ownAt
attribute [local simp] RunD_none RunD_some RunD_nil RunE_any acD_v acD_call agD_tt agD_ff agD_tf agD_ft agD_tup entsOf svref SO.opds SO.writes SO.makes callEnt pureSV pureOf RV.isOwn
attribute [local simp] abin_add abin_sub abin_mul abin_quo abin_rem abin_eql abin_neq abin_lss abin_leq abin_gtr abin_geq
attribute [local simp] uL_snoc uL_set uL_take uL_drop uL_append uL_replicate uL_nil
attribute [local simp] acK_callG acD_callG St.giv gsSV gvSV retEnts ownEnts SO.still
attribute [local simp] S0G argSlotG givSV retQG retPG retAllG retOneG HObj.width V.scalar trimQ V.byte
attribute [local simp] zv V.fits fillOk fillV Z_eq rv Q_eq
theorem qcut (l : List UInt8) (hl : l.length ≤ 2 ^ 40) : Spec Tryz.prog f_strings_Cut [tx l, tx [47]] (· = [.pure (tx (if strokeAt l = -1 then l else (cutL l).1)), .pure (tx (if strokeAt l = -1 then [] else (cutL l).2)), .pure (.b (decide (strokeAt l ≠ -1)))]) := by
  have ix := index1_spec l hl
  have hc : Spec Tryz.prog f_stringslite_Cut [tx l, tx [47]] (· = [.pure (tx (if strokeAt l = -1 then l else (cutL l).1)), .pure (tx (if strokeAt l = -1 then [] else (cutL l).2)), .pure (.b (decide (strokeAt l ≠ -1)))]) := by
    rcases strokeAt_facts l with ⟨h1, h2⟩ | ⟨a, b, rfl, h2, h3⟩
    · rw [h1] at ix ⊢
      refine spec_at Tryz.func112 ok_stringslite_Cut [] rfl (by simp) ?_
      unfold sc_stringslite_Cut
      refine WS_seq (WS_reg [] ?_); simp [tx]
      refine WS_seq (WS_seq (WS_reg [] ?_)); simp [tx]
      refine callK ix ?_; simp [tx]
      refine WS_seq (WS_reg [] ?_); simp [tx]
      refine WS_cond (t := false) (by simp [tx]) (fun h => by cases h) (fun _ => ?_)
      refine WS_skip ?_; simp [tx]
      refine WS_seq (WS_reg [] ?_); simp [tx]
      refine WS_ret ?_; simp [tx]
    · rw [h3, cutL_mid h2]
      rw [h3] at ix
      have e0 : ¬ (a.length : Int) = -1 := by omega
      rw [if_neg e0, if_neg e0, decide_eq_true (by omega)]
      simp at hl
      have es : IntKind.i64.wrap ((a.length : Int) + 1) = (a.length : Int) + 1 := i64_succ _ (by omega)
      have e1 : (a ++ 47 :: b).length = a.length + (b.length + 1) := by simp
      have e2 : ((a.length : Int) + 1).toNat = a.length + 1 := by omega
      have e3 : (a ++ 47 :: b).take a.length = a := by simp
      have e4 : (a ++ 47 :: b).drop (a.length + 1) = b := by simp
      obtain ⟨W, hW⟩ : ∃ W, W = a ++ 47 :: b := ⟨_, rfl⟩
      rw [← hW] at ix e1 e3 e4 ⊢
      have e5 : (W.take W.length) = W := List.take_length
      have e6 : (a.length : Int) ≤ (W.length : Int) := by omega
      have e8 : (0 : Int) ≤ (a.length : Int) + 1 := by omega
      have e7 : (a.length : Int) + 1 ≤ (W.length : Int) := by omega
      refine spec_at Tryz.func112 ok_stringslite_Cut [] rfl (by simp) ?_
      unfold sc_stringslite_Cut
      refine WS_seq (WS_reg [] ?_); simp [tx, bmk_size, bmk_extract, es, e2, e3, e4, e5, e6, e7, e8]
      refine WS_seq (WS_seq (WS_reg [] ?_)); simp [tx, bmk_size, bmk_extract, es, e2, e3, e4, e5, e6, e7, e8]
      refine callK ix ?_; simp [tx, bmk_size, bmk_extract, es, e2, e3, e4, e5, e6, e7, e8]
      refine WS_seq (WS_reg [] ?_); simp [tx, bmk_size, bmk_extract, es, e2, e3, e4, e5, e6, e7, e8]
      refine WS_cond (t := true) (by simp [tx, bmk_size, bmk_extract, es, e2, e3, e4, e5, e6, e7, e8]) (fun _ => ?_) (fun h => by cases h)
      refine WS_seq (WS_regD [] ?_); simp [tx, bmk_size, bmk_extract, es, e2, e3, e4, e5, e6, e7, e8]
      refine ⟨rfl, ?_⟩
      refine WS_ret ?_; simp [tx, bmk_size, bmk_extract, es, e2, e3, e4, e5, e6, e7, e8]
  refine spec_at Tryz.func76 ok_strings_Cut [] rfl (by simp) ?_
  unfold sc_strings_Cut
  obtain ⟨A, hA⟩ : ∃ A, A = tx (if strokeAt l = -1 then l else (cutL l).1) := ⟨_, rfl⟩
  obtain ⟨B, hB⟩ : ∃ A, A = tx (if strokeAt l = -1 then [] else (cutL l).2) := ⟨_, rfl⟩
  obtain ⟨C, hC⟩ : ∃ A, A = decide (strokeAt l ≠ -1) := ⟨_, rfl⟩
  rw [← hA, ← hB, ← hC] at hc ⊢
  have hA' : ∃ x, A = .s x := ⟨_, hA⟩
  have hB' : ∃ x, B = .s x := ⟨_, hB⟩
  clear hA hB hC
  obtain ⟨a, rfl⟩ := hA'
  obtain ⟨b, rfl⟩ := hB'
  refine WS_seq (WS_reg [] ?_); simp [tx]
  refine WS_seq (WS_reg [] ?_); simp [tx]
  refine callK hc ?_; simp [tx]
  refine WS_ret ?_; simp [tx]

theorem qtext {k : Nat} {v : V} {q : Rat} (hv : IsQ k v q) (hk : k ≤ 2 ^ 30) : Spec Tryz.prog f_rat_Text [v] (· = [.pure (tx (qT q))]) := by
  have wh := qwhole hv (by omega)
  have nm := qnorm hv (by omega)
  have ql := hv.ql
  have t1 := ztext (isZ_of ql.num) (by omega)
  have t2 := ntext_spec (qd q.den) (qd_dl _) (by rw [qd_len]; have := ql.den; omega)
  rw [qd_val] at t2
  have l1 := zT_len ql.num
  have l2 := Nm.decT_length (lt_zlen' ql.den)
  rw [Int.natAbs_natCast] at l2
  obtain ⟨n, l, d, rfl, h1, h2, _⟩ := hv
  refine spec_at Tryz.func21 ok_rat_Text [] rfl (by simp) ?_
  unfold sc_rat_Text
  by_cases h : q.den = 1
  · rw [wholeR, if_pos h] at wh
    rw [qT, if_pos h]
    refine WS_seq (WS_reg [] ?_); simp [tx]
    refine WS_seq (WS_seq (WS_reg [] ?_)); simp [tx]
    refine callK wh ?_; simp [tx]
    refine WS_seq (WS_reg [] ?_); simp [tx]
    refine WS_cond (t := true) (by simp [tx]) (fun _ => ?_) (fun h => by cases h)
    refine WS_seq (WS_reg [] ?_); simp [tx]
    refine callK t1 ?_; simp [tx]
    refine WS_ret ?_; simp [tx]
  · rw [wholeR, if_neg h] at wh
    rw [qT, if_neg h]
    obtain ⟨A, hA⟩ : ∃ A, A = zT q.num := ⟨_, rfl⟩
    obtain ⟨B, hB⟩ : ∃ A, A = Nm.decT q.den := ⟨_, rfl⟩
    rw [← hA] at t1 l1 ⊢
    rw [← hB] at t2 l2 ⊢
    have c1 := bmk_cat A [47] (by simp; omega)
    have c2 := bmk_cat (A ++ [47]) B (by simp; omega)
    have e : A ++ 47 :: B = A ++ [47] ++ B := by simp
    rw [e]
    obtain ⟨C, hC⟩ : ∃ C, C = A ++ [47] := ⟨_, rfl⟩
    rw [← hC] at c1 c2 ⊢
    refine WS_seq (WS_reg [] ?_); simp [tx, U, c1, c2]
    refine WS_seq (WS_seq (WS_reg [] ?_)); simp [tx, U, c1, c2]
    refine callK wh ?_; simp [tx, U, c1, c2]
    refine WS_seq (WS_reg [] ?_); simp [tx, U, c1, c2]
    refine WS_cond (t := false) (by simp [tx, U, c1, c2]) (fun h => by cases h) (fun _ => ?_)
    refine WS_skip ?_; simp [tx, U, c1, c2]
    refine WS_seq (WS_reg [] ?_); simp [tx, U, c1, c2]
    refine callK nm ?_; simp [tx, U, c1, c2]
    refine WS_seq (WS_regD [] ?_); simp [tx, U, c1, c2]
    refine callD t1 rfl ?_; simp [tx, U, c1, c2]
    refine callD t2 rfl ?_; simp [tx, U, c1, c2]
    refine ⟨rfl, ?_⟩
    refine WS_ret ?_; simp [tx, U, c1, c2]

set_option maxHeartbeats 1000000 in
theorem qparse (s : List UInt8) (hs : s.length ≤ 2 ^ 40) : Spec Tryz.prog f_rat_Parse [tx s] (· = qPR (qP s)) := by
  have ct := qcut s hs
  have hlen : (cutL s).1.length ≤ 2 ^ 40 ∧ (cutL s).2.length ≤ 2 ^ 40 := by
    unfold cutL
    split
    · exact ⟨hs, by simp⟩
    · simp only [List.length_take, List.length_drop]; omega
  have zp := zparse (cutL s).1 hlen.1
  have np := nparse_spec ⟨(cutL s).2.toArray⟩ (by rw [bmk_size]; exact hlen.2)
  have key : ∀ (a b : List UInt8) (t : Bool), cutL s = (a, if t then b else [49]) → (t = false → b = []) → Spec Tryz.prog f_strings_Cut [tx s, tx [47]] (· = [.pure (tx a), .pure (tx b), .pure (.b t)]) → Spec Tryz.prog f_rat_Parse [tx s] (· = qPR (qP s)) := by
    intro a b t he hb hc
    obtain ⟨w, hw⟩ : ∃ w, w = (if t then b else [49]) := ⟨_, rfl⟩
    rw [← hw] at he
    rw [he] at zp np
    have hq : qP s = match zP a, parseV w with
      | some n, some d => if qT (mkRat n d) = s then some (mkRat n d) else none
      | _, _ => none := by rw [qP, he]
    have nm : ∀ (z : Int) (d : Nat), zlen z ≤ 4096 → zlen (d : Int) ≤ 4096 → Spec Tryz.prog f_rat_Norm [rv (zn z) (zl z) (qd d)] (· = [.pure (Q (mkRat z d))]) := fun z d h1 h2 => qnorm (isQ_mk h1 h2) (by omega)
    have tt : ∀ (z : Int) (d : Nat), zlen z ≤ 4096 → zlen (d : Int) ≤ 4096 → Spec Tryz.prog f_rat_Text [Q (mkRat z d)] (· = [.pure (tx (qT (mkRat z d)))]) := fun z d h1 h2 => qtext (isQ_Q (mkRat_len h1 h2)) (by omega)
    have e0 : zlen 0 ≤ 4096 := by rw [zlen_zero]; omega
    have u0 : (U [] : V) = U (qd 0) := by rw [qd, Nm.dig_zero]
    have np' : Spec Tryz.prog f_nat_Parse [tx w] (· = parseR (parseV w)) := np
    cases t with
    | true =>
      obtain rfl : w = b := hw
      cases hz : zP a with
      | none =>
        rw [hz] at zp hq
        have hq : qP s = none := hq
        rw [hq]
        cases hd : parseV w with
        | none =>
          rw [hd, parseR, u0] at np'
          have n1 := nm 0 0 e0 e0
          refine spec_at Tryz.func18 ok_rat_Parse [] rfl (by simp) ?_
          unfold sc_rat_Parse
          refine WS_seq (WS_reg [] ?_); simp [tx, U, zPR, qPR]
          refine WS_seq (WS_reg [] ?_); simp [tx, U, zPR, qPR]
          refine callK hc ?_; simp [tx, U, zPR, qPR]
          refine WS_seq (WS_seq (WS_reg [] ?_)); simp [tx, U, zPR, qPR]
          refine WS_cond (t := false) (by simp [tx, U, zPR, qPR]) (fun h => by cases h) (fun _ => ?_)
          refine WS_skip ?_; simp [tx, U, zPR, qPR]
          refine WS_seq (WS_reg [] ?_); simp [tx, U, zPR, qPR]
          refine callK zp ?_; simp [tx, U, zPR, qPR]
          refine WS_seq (WS_reg [] ?_); simp [tx, U, zPR, qPR]
          refine callK np' ?_; simp [tx, U, zPR, qPR]
          refine WS_seq (WS_reg [] ?_); simp [tx, U, zPR, qPR]
          refine callK n1 ?_; simp [tx, U, zPR, qPR]
          refine WS_seq (WS_seq (WS_reg [] ?_)); simp [tx, U, zPR, qPR]
          refine WS_cond (t := true) (by simp [tx, U, zPR, qPR]) (fun _ => ?_) (fun h => by cases h)
          refine WS_seq (WS_reg [] ?_); simp [tx, U, zPR, qPR]
          refine WS_ret ?_; simp [tx, U, zPR, qPR]
        | some d =>
          rw [hd, parseR] at np'
          have n1 := nm 0 d e0 (parseV_lim hd)
          refine spec_at Tryz.func18 ok_rat_Parse [] rfl (by simp) ?_
          unfold sc_rat_Parse
          refine WS_seq (WS_reg [] ?_); simp [tx, U, zPR, qPR]
          refine WS_seq (WS_reg [] ?_); simp [tx, U, zPR, qPR]
          refine callK hc ?_; simp [tx, U, zPR, qPR]
          refine WS_seq (WS_seq (WS_reg [] ?_)); simp [tx, U, zPR, qPR]
          refine WS_cond (t := false) (by simp [tx, U, zPR, qPR]) (fun h => by cases h) (fun _ => ?_)
          refine WS_skip ?_; simp [tx, U, zPR, qPR]
          refine WS_seq (WS_reg [] ?_); simp [tx, U, zPR, qPR]
          refine callK zp ?_; simp [tx, U, zPR, qPR]
          refine WS_seq (WS_reg [] ?_); simp [tx, U, zPR, qPR]
          refine callK np' ?_; simp [tx, U, zPR, qPR]
          refine WS_seq (WS_reg [] ?_); simp [tx, U, zPR, qPR]
          refine callK n1 ?_; simp [tx, U, zPR, qPR]
          refine WS_seq (WS_seq (WS_reg [] ?_)); simp [tx, U, zPR, qPR]
          refine WS_cond (t := true) (by simp [tx, U, zPR, qPR]) (fun _ => ?_) (fun h => by cases h)
          refine WS_seq (WS_reg [] ?_); simp [tx, U, zPR, qPR]
          refine WS_ret ?_; simp [tx, U, zPR, qPR]
      | some z =>
        rw [hz] at zp hq
        have hzl := zP_len hz
        cases hd : parseV w with
        | none =>
          rw [hd] at hq
          have hq : qP s = none := hq
          rw [hq]
          rw [hd, parseR, u0] at np'
          have n1 := nm z 0 hzl e0
          refine spec_at Tryz.func18 ok_rat_Parse [] rfl (by simp) ?_
          unfold sc_rat_Parse
          refine WS_seq (WS_reg [] ?_); simp [tx, U, zPR, qPR]
          refine WS_seq (WS_reg [] ?_); simp [tx, U, zPR, qPR]
          refine callK hc ?_; simp [tx, U, zPR, qPR]
          refine WS_seq (WS_seq (WS_reg [] ?_)); simp [tx, U, zPR, qPR]
          refine WS_cond (t := false) (by simp [tx, U, zPR, qPR]) (fun h => by cases h) (fun _ => ?_)
          refine WS_skip ?_; simp [tx, U, zPR, qPR]
          refine WS_seq (WS_reg [] ?_); simp [tx, U, zPR, qPR]
          refine callK zp ?_; simp [tx, U, zPR, qPR]
          refine WS_seq (WS_reg [] ?_); simp [tx, U, zPR, qPR]
          refine callK np' ?_; simp [tx, U, zPR, qPR]
          refine WS_seq (WS_reg [] ?_); simp [tx, U, zPR, qPR]
          refine callK n1 ?_; simp [tx, U, zPR, qPR]
          refine WS_seq (WS_seq (WS_reg [] ?_)); simp [tx, U, zPR, qPR]
          refine WS_cond (t := true) (by simp [tx, U, zPR, qPR]) (fun _ => ?_) (fun h => by cases h)
          refine WS_seq (WS_reg [] ?_); simp [tx, U, zPR, qPR]
          refine WS_ret ?_; simp [tx, U, zPR, qPR]
        | some d =>
          rw [hd] at hq
          have hq : qP s = if qT (mkRat z d) = s then some (mkRat z d) else none := hq
          rw [hd, parseR] at np'
          have hdl := parseV_lim hd
          have n1 := nm z d hzl hdl
          have t1 := tt z d hzl hdl
          obtain ⟨r, hr⟩ : ∃ r, r = mkRat z d := ⟨_, rfl⟩
          rw [← hr] at n1 t1 hq
          by_cases hts : qT r = s
          · rw [if_pos hts] at hq
            rw [hq]
            rw [hts] at t1
            refine spec_at Tryz.func18 ok_rat_Parse [] rfl (by simp) ?_
            unfold sc_rat_Parse
            refine WS_seq (WS_reg [] ?_); simp [tx, U, zPR, qPR, abin_sneq]
            refine WS_seq (WS_reg [] ?_); simp [tx, U, zPR, qPR, abin_sneq]
            refine callK hc ?_; simp [tx, U, zPR, qPR, abin_sneq]
            refine WS_seq (WS_seq (WS_reg [] ?_)); simp [tx, U, zPR, qPR, abin_sneq]
            refine WS_cond (t := false) (by simp [tx, U, zPR, qPR, abin_sneq]) (fun h => by cases h) (fun _ => ?_)
            refine WS_skip ?_; simp [tx, U, zPR, qPR, abin_sneq]
            refine WS_seq (WS_reg [] ?_); simp [tx, U, zPR, qPR, abin_sneq]
            refine callK zp ?_; simp [tx, U, zPR, qPR, abin_sneq]
            refine WS_seq (WS_reg [] ?_); simp [tx, U, zPR, qPR, abin_sneq]
            refine callK np' ?_; simp [tx, U, zPR, qPR, abin_sneq]
            refine WS_seq (WS_reg [] ?_); simp [tx, U, zPR, qPR, abin_sneq]
            refine callK n1 ?_; simp [tx, U, zPR, qPR, abin_sneq]
            refine WS_seq (WS_seq (WS_reg [] ?_)); simp [tx, U, zPR, qPR, abin_sneq]
            refine callK t1 ?_; simp [tx, U, zPR, qPR, abin_sneq]
            refine WS_cond (t := false) (by simp [tx, U, zPR, qPR, abin_sneq]) (fun h => by cases h) (fun _ => ?_)
            refine WS_skip ?_; simp [tx, U, zPR, qPR, abin_sneq]
            refine WS_seq (WS_reg [] ?_); simp [tx, U, zPR, qPR, abin_sneq]
            refine WS_ret ?_; simp [tx, U, zPR, qPR, abin_sneq]
          · rw [if_neg hts] at hq
            rw [hq]
            have hts' : (qT r == s) = false := by simpa using hts
            refine spec_at Tryz.func18 ok_rat_Parse [] rfl (by simp) ?_
            unfold sc_rat_Parse
            refine WS_seq (WS_reg [] ?_); simp [tx, U, zPR, qPR, abin_sneq, bmk_list, hts']
            refine WS_seq (WS_reg [] ?_); simp [tx, U, zPR, qPR, abin_sneq, bmk_list, hts']
            refine callK hc ?_; simp [tx, U, zPR, qPR, abin_sneq, bmk_list, hts']
            refine WS_seq (WS_seq (WS_reg [] ?_)); simp [tx, U, zPR, qPR, abin_sneq, bmk_list, hts']
            refine WS_cond (t := false) (by simp [tx, U, zPR, qPR, abin_sneq, bmk_list, hts']) (fun h => by cases h) (fun _ => ?_)
            refine WS_skip ?_; simp [tx, U, zPR, qPR, abin_sneq, bmk_list, hts']
            refine WS_seq (WS_reg [] ?_); simp [tx, U, zPR, qPR, abin_sneq, bmk_list, hts']
            refine callK zp ?_; simp [tx, U, zPR, qPR, abin_sneq, bmk_list, hts']
            refine WS_seq (WS_reg [] ?_); simp [tx, U, zPR, qPR, abin_sneq, bmk_list, hts']
            refine callK np' ?_; simp [tx, U, zPR, qPR, abin_sneq, bmk_list, hts']
            refine WS_seq (WS_reg [] ?_); simp [tx, U, zPR, qPR, abin_sneq, bmk_list, hts']
            refine callK n1 ?_; simp [tx, U, zPR, qPR, abin_sneq, bmk_list, hts']
            refine WS_seq (WS_seq (WS_reg [] ?_)); simp [tx, U, zPR, qPR, abin_sneq, bmk_list, hts']
            refine callK t1 ?_; simp [tx, U, zPR, qPR, abin_sneq, bmk_list, hts']
            refine WS_cond (t := true) (by simp [tx, U, zPR, qPR, abin_sneq, bmk_list, hts']) (fun _ => ?_) (fun h => by cases h)
            refine WS_seq (WS_reg [] ?_); simp [tx, U, zPR, qPR, abin_sneq, bmk_list, hts']
            refine WS_ret ?_; simp [tx, U, zPR, qPR, abin_sneq, bmk_list, hts']
    | false =>
      obtain rfl : w = [49] := hw
      cases hz : zP a with
      | none =>
        rw [hz] at zp hq
        have hq : qP s = none := hq
        rw [hq]
        cases hd : parseV [49] with
        | none =>
          rw [hd, parseR, u0] at np'
          have n1 := nm 0 0 e0 e0
          refine spec_at Tryz.func18 ok_rat_Parse [] rfl (by simp) ?_
          unfold sc_rat_Parse
          refine WS_seq (WS_reg [] ?_); simp [tx, U, zPR, qPR]
          refine WS_seq (WS_reg [] ?_); simp [tx, U, zPR, qPR]
          refine callK hc ?_; simp [tx, U, zPR, qPR]
          refine WS_seq (WS_seq (WS_reg [] ?_)); simp [tx, U, zPR, qPR]
          refine WS_cond (t := true) (by simp [tx, U, zPR, qPR]) (fun _ => ?_) (fun h => by cases h)
          refine WS_reg [] ?_; simp [tx, U, zPR, qPR]
          refine WS_seq (WS_reg [] ?_); simp [tx, U, zPR, qPR]
          refine callK zp ?_; simp [tx, U, zPR, qPR]
          refine WS_seq (WS_reg [] ?_); simp [tx, U, zPR, qPR]
          refine callK np' ?_; simp [tx, U, zPR, qPR]
          refine WS_seq (WS_reg [] ?_); simp [tx, U, zPR, qPR]
          refine callK n1 ?_; simp [tx, U, zPR, qPR]
          refine WS_seq (WS_seq (WS_reg [] ?_)); simp [tx, U, zPR, qPR]
          refine WS_cond (t := true) (by simp [tx, U, zPR, qPR]) (fun _ => ?_) (fun h => by cases h)
          refine WS_seq (WS_reg [] ?_); simp [tx, U, zPR, qPR]
          refine WS_ret ?_; simp [tx, U, zPR, qPR]
        | some d =>
          rw [hd, parseR] at np'
          have n1 := nm 0 d e0 (parseV_lim hd)
          refine spec_at Tryz.func18 ok_rat_Parse [] rfl (by simp) ?_
          unfold sc_rat_Parse
          refine WS_seq (WS_reg [] ?_); simp [tx, U, zPR, qPR]
          refine WS_seq (WS_reg [] ?_); simp [tx, U, zPR, qPR]
          refine callK hc ?_; simp [tx, U, zPR, qPR]
          refine WS_seq (WS_seq (WS_reg [] ?_)); simp [tx, U, zPR, qPR]
          refine WS_cond (t := true) (by simp [tx, U, zPR, qPR]) (fun _ => ?_) (fun h => by cases h)
          refine WS_reg [] ?_; simp [tx, U, zPR, qPR]
          refine WS_seq (WS_reg [] ?_); simp [tx, U, zPR, qPR]
          refine callK zp ?_; simp [tx, U, zPR, qPR]
          refine WS_seq (WS_reg [] ?_); simp [tx, U, zPR, qPR]
          refine callK np' ?_; simp [tx, U, zPR, qPR]
          refine WS_seq (WS_reg [] ?_); simp [tx, U, zPR, qPR]
          refine callK n1 ?_; simp [tx, U, zPR, qPR]
          refine WS_seq (WS_seq (WS_reg [] ?_)); simp [tx, U, zPR, qPR]
          refine WS_cond (t := true) (by simp [tx, U, zPR, qPR]) (fun _ => ?_) (fun h => by cases h)
          refine WS_seq (WS_reg [] ?_); simp [tx, U, zPR, qPR]
          refine WS_ret ?_; simp [tx, U, zPR, qPR]
      | some z =>
        rw [hz] at zp hq
        have hzl := zP_len hz
        cases hd : parseV [49] with
        | none =>
          rw [hd] at hq
          have hq : qP s = none := hq
          rw [hq]
          rw [hd, parseR, u0] at np'
          have n1 := nm z 0 hzl e0
          refine spec_at Tryz.func18 ok_rat_Parse [] rfl (by simp) ?_
          unfold sc_rat_Parse
          refine WS_seq (WS_reg [] ?_); simp [tx, U, zPR, qPR]
          refine WS_seq (WS_reg [] ?_); simp [tx, U, zPR, qPR]
          refine callK hc ?_; simp [tx, U, zPR, qPR]
          refine WS_seq (WS_seq (WS_reg [] ?_)); simp [tx, U, zPR, qPR]
          refine WS_cond (t := true) (by simp [tx, U, zPR, qPR]) (fun _ => ?_) (fun h => by cases h)
          refine WS_reg [] ?_; simp [tx, U, zPR, qPR]
          refine WS_seq (WS_reg [] ?_); simp [tx, U, zPR, qPR]
          refine callK zp ?_; simp [tx, U, zPR, qPR]
          refine WS_seq (WS_reg [] ?_); simp [tx, U, zPR, qPR]
          refine callK np' ?_; simp [tx, U, zPR, qPR]
          refine WS_seq (WS_reg [] ?_); simp [tx, U, zPR, qPR]
          refine callK n1 ?_; simp [tx, U, zPR, qPR]
          refine WS_seq (WS_seq (WS_reg [] ?_)); simp [tx, U, zPR, qPR]
          refine WS_cond (t := true) (by simp [tx, U, zPR, qPR]) (fun _ => ?_) (fun h => by cases h)
          refine WS_seq (WS_reg [] ?_); simp [tx, U, zPR, qPR]
          refine WS_ret ?_; simp [tx, U, zPR, qPR]
        | some d =>
          rw [hd] at hq
          have hq : qP s = if qT (mkRat z d) = s then some (mkRat z d) else none := hq
          rw [hd, parseR] at np'
          have hdl := parseV_lim hd
          have n1 := nm z d hzl hdl
          have t1 := tt z d hzl hdl
          obtain ⟨r, hr⟩ : ∃ r, r = mkRat z d := ⟨_, rfl⟩
          rw [← hr] at n1 t1 hq
          by_cases hts : qT r = s
          · rw [if_pos hts] at hq
            rw [hq]
            rw [hts] at t1
            refine spec_at Tryz.func18 ok_rat_Parse [] rfl (by simp) ?_
            unfold sc_rat_Parse
            refine WS_seq (WS_reg [] ?_); simp [tx, U, zPR, qPR, abin_sneq]
            refine WS_seq (WS_reg [] ?_); simp [tx, U, zPR, qPR, abin_sneq]
            refine callK hc ?_; simp [tx, U, zPR, qPR, abin_sneq]
            refine WS_seq (WS_seq (WS_reg [] ?_)); simp [tx, U, zPR, qPR, abin_sneq]
            refine WS_cond (t := true) (by simp [tx, U, zPR, qPR, abin_sneq]) (fun _ => ?_) (fun h => by cases h)
            refine WS_reg [] ?_; simp [tx, U, zPR, qPR, abin_sneq]
            refine WS_seq (WS_reg [] ?_); simp [tx, U, zPR, qPR, abin_sneq]
            refine callK zp ?_; simp [tx, U, zPR, qPR, abin_sneq]
            refine WS_seq (WS_reg [] ?_); simp [tx, U, zPR, qPR, abin_sneq]
            refine callK np' ?_; simp [tx, U, zPR, qPR, abin_sneq]
            refine WS_seq (WS_reg [] ?_); simp [tx, U, zPR, qPR, abin_sneq]
            refine callK n1 ?_; simp [tx, U, zPR, qPR, abin_sneq]
            refine WS_seq (WS_seq (WS_reg [] ?_)); simp [tx, U, zPR, qPR, abin_sneq]
            refine callK t1 ?_; simp [tx, U, zPR, qPR, abin_sneq]
            refine WS_cond (t := false) (by simp [tx, U, zPR, qPR, abin_sneq]) (fun h => by cases h) (fun _ => ?_)
            refine WS_skip ?_; simp [tx, U, zPR, qPR, abin_sneq]
            refine WS_seq (WS_reg [] ?_); simp [tx, U, zPR, qPR, abin_sneq]
            refine WS_ret ?_; simp [tx, U, zPR, qPR, abin_sneq]
          · rw [if_neg hts] at hq
            rw [hq]
            have hts' : (qT r == s) = false := by simpa using hts
            refine spec_at Tryz.func18 ok_rat_Parse [] rfl (by simp) ?_
            unfold sc_rat_Parse
            refine WS_seq (WS_reg [] ?_); simp [tx, U, zPR, qPR, abin_sneq, bmk_list, hts']
            refine WS_seq (WS_reg [] ?_); simp [tx, U, zPR, qPR, abin_sneq, bmk_list, hts']
            refine callK hc ?_; simp [tx, U, zPR, qPR, abin_sneq, bmk_list, hts']
            refine WS_seq (WS_seq (WS_reg [] ?_)); simp [tx, U, zPR, qPR, abin_sneq, bmk_list, hts']
            refine WS_cond (t := true) (by simp [tx, U, zPR, qPR, abin_sneq, bmk_list, hts']) (fun _ => ?_) (fun h => by cases h)
            refine WS_reg [] ?_; simp [tx, U, zPR, qPR, abin_sneq, bmk_list, hts']
            refine WS_seq (WS_reg [] ?_); simp [tx, U, zPR, qPR, abin_sneq, bmk_list, hts']
            refine callK zp ?_; simp [tx, U, zPR, qPR, abin_sneq, bmk_list, hts']
            refine WS_seq (WS_reg [] ?_); simp [tx, U, zPR, qPR, abin_sneq, bmk_list, hts']
            refine callK np' ?_; simp [tx, U, zPR, qPR, abin_sneq, bmk_list, hts']
            refine WS_seq (WS_reg [] ?_); simp [tx, U, zPR, qPR, abin_sneq, bmk_list, hts']
            refine callK n1 ?_; simp [tx, U, zPR, qPR, abin_sneq, bmk_list, hts']
            refine WS_seq (WS_seq (WS_reg [] ?_)); simp [tx, U, zPR, qPR, abin_sneq, bmk_list, hts']
            refine callK t1 ?_; simp [tx, U, zPR, qPR, abin_sneq, bmk_list, hts']
            refine WS_cond (t := true) (by simp [tx, U, zPR, qPR, abin_sneq, bmk_list, hts']) (fun _ => ?_) (fun h => by cases h)
            refine WS_seq (WS_reg [] ?_); simp [tx, U, zPR, qPR, abin_sneq, bmk_list, hts']
            refine WS_ret ?_; simp [tx, U, zPR, qPR, abin_sneq, bmk_list, hts']
  by_cases h : strokeAt s = -1
  · rw [if_pos h, if_pos h, decide_eq_false (by simp [h])] at ct
    exact key s [] false (by rw [cutL, if_pos h]; rfl) (fun _ => rfl) ct
  · rw [if_neg h, if_neg h, decide_eq_true h] at ct
    exact key _ _ true rfl (fun h => by cases h) ct

end Go.Vw
set_option linter.unusedVariables false
set_option linter.unusedSimpArgs false
namespace Go.Vw
open Go.Proofs

def few3B (n : Nat) (L : List (Bool × List Nat × List Nat)) : Bool := L.all fun p => decide (p.2.1.length ≤ n) && decide (p.2.2.length ≤ n)
def rL (L : List (Bool × List Nat × List Nat)) : List V := L.map fun p => rv p.1 p.2.1 p.2.2

attribute [local simp] RunL_cons RunL_nil AOp_none AOp_some acK_v acK_call agK_tt agK_ff agK_tf agK_ft agK_tup agK_i aop aun St.ev St.heap St.put thenQ blockQ scopeQ upd_apply S0 argSlot lowV V.cells V.isAgg V.fits V.part partOk plains St.ret retSV svOf svsOf retQ retP retAll retOne uL_length uL_get? uL_get St.elems retH ownIdx ownAt
attribute [local simp] RunD_none RunD_some RunD_nil RunE_any acD_v acD_call agD_tt agD_ff agD_tf agD_ft agD_tup entsOf svref SO.opds SO.writes SO.makes callEnt pureSV pureOf RV.isOwn
attribute [local simp] abin_add abin_sub abin_mul abin_quo abin_rem abin_eql abin_neq abin_lss abin_leq abin_gtr abin_geq
attribute [local simp] uL_snoc uL_set uL_take uL_drop uL_append uL_replicate uL_nil
attribute [local simp] acK_callG acD_callG St.giv gsSV gvSV retEnts ownEnts SO.still
attribute [local simp] S0G argSlotG givSV retQG retPG retAllG retOneG HObj.width V.scalar trimQ V.byte
attribute [local simp] zv V.fits fillOk fillV Z_eq rv Q_eq
end Go.Vw
set_option linter.unusedVariables false
set_option linter.unusedSimpArgs false
namespace Go.Vw
open Go.Proofs

theorem q_coprime (q : Rat) : Int.gcd q.num (q.den : Int) = 1 := by
  have := q.reduced
  simpa [Int.gcd, Nat.Coprime] using this
theorem txB_ne {d : Nat} (h : d < 10) : Nm.txB d ≠ 47 := by
  intro e
  have := Nm.txB_nat h
  rw [e] at this
  have h4 : (47 : UInt8).toNat = 47 := rfl
  omega
theorem decT_stroke (n : Nat) : (47 : UInt8) ∉ Nm.decT n := by
  unfold Nm.decT
  split
  · decide
  · rw [Nm.decL]
    intro h
    simp only [List.mem_map, List.mem_reverse] at h
    obtain ⟨d, hd, he⟩ := h
    exact txB_ne (Nm.dig_lt (by omega) n d hd) he
theorem zT_stroke (x : Int) : (47 : UInt8) ∉ zT x := by
  unfold zT
  split
  · simp [decT_stroke]
  · exact decT_stroke _
theorem qP_len {s : List UInt8} {q : Rat} (h : qP s = some q) : QL 4097 q := by
  unfold qP at h
  split at h
  · rename_i n d hn hd
    split at h
    · simp only [Option.some.injEq] at h
      rw [← h]
      exact mkRat_len (zP_len hn) (parseV_lim hd)
    · cases h
  · cases h

attribute [local simp] RunL_cons RunL_nil AOp_none AOp_some acK_v acK_call agK_tt agK_ff agK_tf agK_ft agK_tup agK_i aop aun St.ev St.heap St.put thenQ blockQ scopeQ upd_apply S0 argSlot lowV V.cells V.isAgg V.fits V.part partOk plains St.ret retSV svOf svsOf retQ retP retAll retOne uL_length uL_get? uL_get St.elems retH ownIdx ownAt
attribute [local simp] RunD_none RunD_some RunD_nil RunE_any acD_v acD_call agD_tt agD_ff agD_tf agD_ft agD_tup entsOf svref SO.opds SO.writes SO.makes callEnt pureSV pureOf RV.isOwn
attribute [local simp] abin_add abin_sub abin_mul abin_quo abin_rem abin_eql abin_neq abin_lss abin_leq abin_gtr abin_geq
attribute [local simp] uL_snoc uL_set uL_take uL_drop uL_append uL_replicate uL_nil
attribute [local simp] acK_callG acD_callG St.giv gsSV gvSV retEnts ownEnts SO.still
attribute [local simp] S0G argSlotG givSV retQG retPG retAllG retOneG HObj.width V.scalar trimQ V.byte
attribute [local simp] zv V.fits fillOk fillV Z_eq rv Q_eq
end Go.Vw
set_option linter.unusedVariables false
set_option linter.unusedSimpArgs false
namespace Go.Vw
open Go.Proofs

attribute [local simp] RunL_cons RunL_nil AOp_none AOp_some acK_v acK_call agK_tt agK_ff agK_tf agK_ft agK_tup agK_i aop aun St.ev St.heap St.put thenQ blockQ scopeQ upd_apply S0 argSlot lowV V.cells V.isAgg V.fits V.part partOk plains St.ret retSV svOf svsOf retQ retP retAll retOne uL_length uL_get? uL_get St.elems retH ownIdx ownAt
attribute [local simp] RunD_none RunD_some RunD_nil RunE_any acD_v acD_call agD_tt agD_ff agD_tf agD_ft agD_tup entsOf svref SO.opds SO.writes SO.makes callEnt pureSV pureOf RV.isOwn
attribute [local simp] abin_add abin_sub abin_mul abin_quo abin_rem abin_eql abin_neq abin_lss abin_leq abin_gtr abin_geq
attribute [local simp] uL_snoc uL_set uL_take uL_drop uL_append uL_replicate uL_nil
attribute [local simp] acK_callG acD_callG St.giv gsSV gvSV retEnts ownEnts SO.still
attribute [local simp] S0G argSlotG givSV retQG retPG retAllG retOneG HObj.width V.scalar trimQ V.byte
attribute [local simp] zv V.fits fillOk fillV Z_eq rv Q_eq
end Go.Vw
set_option linter.unusedVariables false
set_option linter.unusedSimpArgs false
namespace Go.Vw
open Go.Proofs

theorem divInt_mk (x : Int) (d : Nat) : Rat.divInt x (d : Int) = mkRat x d := Rat.divInt_ofNat ..
theorem qdiv_mk2 {q r : Rat} : Rat.divInt (q.num * r.den) (q.den * r.num) = q / r := by rw [Int.mul_comm (q.den : Int)]; exact qdiv_mk
theorem ql_neg {k : Nat} {q : Rat} (h : QL k q) : QL k (-q) := ⟨by rw [Rat.neg_num, zlen_neg]; exact h.num, by rw [Rat.neg_den]; exact h.den⟩

attribute [local simp] RunL_cons RunL_nil AOp_none AOp_some acK_v acK_call agK_tt agK_ff agK_tf agK_ft agK_tup agK_i aop aun St.ev St.heap St.put thenQ blockQ scopeQ upd_apply S0 argSlot lowV V.cells V.isAgg V.fits V.part partOk plains St.ret retSV svOf svsOf retQ retP retAll retOne uL_length uL_get? uL_get St.elems retH ownIdx ownAt
attribute [local simp] RunD_none RunD_some RunD_nil RunE_any acD_v acD_call agD_tt agD_ff agD_tf agD_ft agD_tup entsOf svref SO.opds SO.writes SO.makes callEnt pureSV pureOf RV.isOwn
attribute [local simp] abin_add abin_sub abin_mul abin_quo abin_rem abin_eql abin_neq abin_lss abin_leq abin_gtr abin_geq
attribute [local simp] uL_snoc uL_set uL_take uL_drop uL_append uL_replicate uL_nil
attribute [local simp] acK_callG acD_callG St.giv gsSV gvSV retEnts ownEnts SO.still
attribute [local simp] S0G argSlotG givSV retQG retPG retAllG retOneG HObj.width V.scalar trimQ V.byte
attribute [local simp] zv V.fits fillOk fillV Z_eq rv Q_eq
theorem rden3 {k : Nat} {n : Bool} {l d : List Nat} (h : ZW k d) (hk : k ≤ 2 ^ 40) : Spec Tryz.prog f_ref03_den [rv n l d] (· = [.pure (Z (Nm.val 18446744073709551616 d : Int))]) := by
  have nm := rnorm (isZ_zv (n := false) h) hk
  rw [show zi false d = (Nm.val 18446744073709551616 d : Int) by simp [zi]] at nm
  refine spec_at Tryz.func81 ok_ref03_den [] rfl (by simp) ?_
  unfold sc_ref03_den
  refine WS_seq (WS_reg [] ?_); simp
  refine WS_seq (WS_reg [] ?_); simp
  refine callK nm ?_; simp
  refine WS_ret ?_; simp
theorem rden3_Q {k : Nat} {q : Rat} (h : QL k q) (hk : k ≤ 2 ^ 40) : Spec Tryz.prog f_ref03_den [Q q] (· = [.pure (Z (q.den : Int))]) := by
  have := rden3 (n := zn q.num) (l := zl q.num) (d := qd q.den) (k := k) ⟨qd_dl _, by rw [qd_len]; exact h.den⟩ hk
  rwa [qd_val] at this
theorem rsure {k : Nat} {v w : V} {x y : Int} (hv : IsZ k v x) (hw : IsZ k w y) (hk : k ≤ 2 ^ 33) : Spec Tryz.prog f_ref03_sure [v, w] (· = [.pure (Q (Rat.divInt x y))]) := by
  have mk := rmake hv hw hk
  have o0 := rof3 0 (by omega) (by omega)
  rw [Rat.intCast_zero] at o0
  obtain ⟨n1, l1, rfl, h1, _⟩ := hv
  obtain ⟨n2, l2, rfl, h2, _⟩ := hw
  by_cases h0 : y = 0
  · subst h0
    rw [Rat.divInt_zero]
    rw [makeR, if_pos rfl] at mk
    obtain ⟨q, hq⟩ : ∃ q : Rat, q = 0 := ⟨_, rfl⟩
    rw [← hq] at o0 ⊢
    refine spec_at Tryz.func89 ok_ref03_sure [] rfl (by simp) ?_
    unfold sc_ref03_sure
    refine WS_seq (WS_reg [] ?_); simp
    refine WS_seq (WS_reg [] ?_); simp
    refine callK mk ?_; simp
    refine WS_seq (WS_seq (WS_reg [] ?_)); simp
    refine WS_cond (t := true) (by simp) (fun _ => ?_) (fun h => by cases h)
    refine WS_seq (WS_reg [] ?_); simp
    refine callK o0 ?_; simp
    refine WS_ret ?_; simp
  · rw [makeR, if_neg h0] at mk
    obtain ⟨q, hq⟩ : ∃ q : Rat, q = Rat.divInt x y := ⟨_, rfl⟩
    rw [← hq] at mk ⊢
    refine spec_at Tryz.func89 ok_ref03_sure [] rfl (by simp) ?_
    unfold sc_ref03_sure
    refine WS_seq (WS_reg [] ?_); simp
    refine WS_seq (WS_reg [] ?_); simp
    refine callK mk ?_; simp
    refine WS_seq (WS_seq (WS_reg [] ?_)); simp
    refine WS_cond (t := false) (by simp) (fun h => by cases h) (fun _ => ?_)
    refine WS_skip ?_; simp
    refine WS_seq (WS_reg [] ?_); simp
    refine WS_ret ?_; simp
theorem rnorm3 {k : Nat} {v : V} {q : Rat} (hv : IsQ k v q) (hk : k ≤ 2 ^ 33) : Spec Tryz.prog f_ref03_Norm [v] (· = [.pure (Q q)]) := by
  obtain ⟨n, l, d, rfl, h1, h2, hq⟩ := hv
  have dn := rden3 (n := n) (l := l) h2 (by omega)
  have iz := (isZ_zv (n := false) h2).zlen
  rw [show zi false d = (Nm.val 18446744073709551616 d : Int) by simp [zi]] at iz
  have su := rsure (isZ_zv (n := n) h1) (isZ_of iz) hk
  rw [divInt_mk, show mkRat (zi n l) (Nm.val 18446744073709551616 d) = q from hq] at su
  obtain ⟨D, hD⟩ : ∃ D, D = Nm.val 18446744073709551616 d := ⟨_, rfl⟩
  rw [← hD] at dn su
  refine spec_at Tryz.func34 ok_ref03_Norm [] rfl (by simp) ?_
  unfold sc_ref03_Norm
  refine WS_seq (WS_reg [] ?_); simp
  refine WS_seq (WS_regD [] ?_); simp
  refine callD dn rfl ?_; simp
  refine callD su rfl ?_; simp
  refine ⟨rfl, ?_⟩
  refine WS_ret ?_; simp
theorem rneg3 {k : Nat} {v : V} {q : Rat} (hv : IsQ k v q) (hk : k ≤ 2 ^ 33) : Spec Tryz.prog f_ref03_Neg [v] (· = [.pure (Q (-q))]) := by
  obtain ⟨n, l, d, rfl, h1, h2, hq⟩ := hv
  have dn := rden3 (n := n) (l := l) h2 (by omega)
  have ng := rneg (isZ_zv (n := n) h1) (by omega)
  have iz := (isZ_zv (n := false) h2).zlen
  rw [show zi false d = (Nm.val 18446744073709551616 d : Int) by simp [zi]] at iz
  have il := (isZ_zv (n := n) h1).zlen
  have su := rsure (isZ_of (x := -zi n l) (k := k) (by rw [zlen_neg]; exact il)) (isZ_of iz) hk
  have hq2 : mkRat (-zi n l) (Nm.val 18446744073709551616 d) = -q := by rw [← hq, rq, Rat.neg_mkRat]
  rw [divInt_mk, hq2] at su
  obtain ⟨D, hD⟩ : ∃ D, D = Nm.val 18446744073709551616 d := ⟨_, rfl⟩
  rw [← hD] at dn su
  obtain ⟨M, hM⟩ : ∃ D, D = -zi n l := ⟨_, rfl⟩
  rw [← hM] at ng su
  refine spec_at Tryz.func42 ok_ref03_Neg [] rfl (by simp) ?_
  unfold sc_ref03_Neg
  refine WS_seq (WS_reg [] ?_); simp
  refine WS_seq (WS_regD [] ?_); simp
  refine callD ng rfl ?_; simp
  refine callD dn rfl ?_; simp
  refine callD su rfl ?_; simp
  refine ⟨rfl, ?_⟩
  refine WS_ret ?_; simp
theorem rsign3 {k : Nat} {v : V} {q : Rat} (hv : IsQ k v q) (hk : k ≤ 2 ^ 33) : Spec Tryz.prog f_ref03_Sign [v] (· = [.pure (.i .i64 q.num.sign)]) := by
  have nm := rnorm3 hv hk
  have ql := hv.ql
  have sg := rsign (isZ_of ql.num) (by omega)
  obtain ⟨n, l, d, rfl, h1, h2, hq⟩ := hv
  clear hq
  refine spec_at Tryz.func46 ok_ref03_Sign [] rfl (by simp) ?_
  unfold sc_ref03_Sign
  refine WS_seq (WS_reg [] ?_); simp
  refine WS_seq (WS_reg [] ?_); simp
  refine callK nm ?_; simp
  refine callK sg ?_; simp
  refine WS_ret ?_; simp
theorem rwhole3 {k : Nat} {v : V} {q : Rat} (hv : IsQ k v q) (hk : k ≤ 2 ^ 33) : Spec Tryz.prog f_ref03_Whole [v] (· = wholeR q) := by
  have nm := rnorm3 hv hk
  have ql := hv.ql
  have dn := rden3_Q ql (by omega)
  have o1 := rof 1 (by omega) (by omega)
  have cm := rcmp (isZ_of ql.den) (isZ_of (x := 1) (k := k + 1) (Nat.le_trans zlen_one (by omega))) (by omega)
  obtain ⟨n, l, d, rfl, h1, h2, hq⟩ := hv
  clear hq
  refine spec_at Tryz.func32 ok_ref03_Whole [] rfl (by simp) ?_
  unfold sc_ref03_Whole
  by_cases h : q.den = 1
  · rw [wholeR, if_pos h]
    rw [h] at cm
    rw [h] at dn
    rw [show ((1 : Nat) : Int) - 1 = 0 by decide, Int.sign_zero] at cm
    refine WS_seq (WS_reg [] ?_); simp
    refine WS_seq (WS_reg [] ?_); simp
    refine callK nm ?_; simp
    refine WS_seq (WS_seq (WS_reg [] ?_)); simp
    refine callK dn ?_; simp
    refine callK o1 ?_; simp
    refine callK cm ?_; simp
    refine WS_cond (t := false) (by simp) (fun h => by cases h) (fun _ => ?_)
    refine WS_skip ?_; simp
    refine WS_seq (WS_reg [] ?_); simp
    refine WS_ret ?_; simp
  · rw [wholeR, if_neg h]
    have c2 : ¬ ((q.den : Int) - 1).sign = 0 := by rw [Int.sign_eq_zero_iff_zero]; omega
    refine WS_seq (WS_reg [] ?_); simp [c2, Z_zero]
    refine WS_seq (WS_reg [] ?_); simp [c2, Z_zero]
    refine callK nm ?_; simp [c2, Z_zero]
    refine WS_seq (WS_seq (WS_reg [] ?_)); simp [c2, Z_zero]
    refine callK dn ?_; simp [c2, Z_zero]
    refine callK o1 ?_; simp [c2, Z_zero]
    refine callK cm ?_; simp [c2, Z_zero]
    refine WS_cond (t := true) (by simp [c2, Z_zero]) (fun _ => ?_) (fun h => by cases h)
    refine WS_seq (WS_reg [] ?_); simp [c2, Z_zero]
    refine WS_ret ?_; simp [c2, Z_zero]
theorem qneg {k : Nat} {v : V} {q : Rat} (hv : IsQ k v q) (hk : k ≤ 2 ^ 33) : Spec Tryz.prog f_rat_Neg [v] (· = [.pure (Q (-q))]) := by
  have nm := qnorm hv hk
  have ql := hv.ql
  have ng := zneg (isZ_of ql.num) (by omega)
  rw [← Rat.neg_num] at ng
  have e : (-q).den = q.den := Rat.neg_den ..
  obtain ⟨n, l, d, rfl, h1, h2, hq⟩ := hv
  clear hq
  refine spec_at Tryz.func41 ok_rat_Neg [] rfl (by simp) ?_
  unfold sc_rat_Neg
  refine WS_seq (WS_reg [] ?_); simp [e]
  refine WS_seq (WS_reg [] ?_); simp [e]
  refine callK nm ?_; simp [e]
  refine WS_seq (WS_reg [] ?_); simp [e]
  refine callK ng ?_; simp [e]
  refine WS_seq (WS_reg [] ?_); simp [e]
  refine WS_ret ?_; simp [e]

set_option maxHeartbeats 400000 in
theorem radd3 {k : Nat} {v w : V} {q r : Rat} (hv : IsQ k v q) (hw : IsQ k w r) (hk : k ≤ 2 ^ 20) : Spec Tryz.prog f_ref03_Add [v, w] (· = [.pure (Q (q + r))]) := by
  have n1 := rnorm3 hv (by omega)
  have n2 := rnorm3 hw (by omega)
  have q1 := hv.ql
  have q2 := hw.ql
  have d1 := rden3_Q q1 (by omega)
  have d2 := rden3_Q q2 (by omega)
  have m1 := rmul (isZ_of q1.num) (isZ_of q2.den) (by omega)
  have m2 := rmul (isZ_of q2.num) (isZ_of q1.den) (by omega)
  have m3 := rmul (isZ_of q1.den) (isZ_of q2.den) (by omega)
  have z1 := zlen_mul q.num r.den
  have z2 := zlen_mul r.num q.den
  have z3 := zlen_mul q.den r.den
  have b1 := q1.num
  have b2 := q1.den
  have b3 := q2.num
  have b4 := q2.den
  have ad := radd (isZ_of (x := q.num * r.den) (k := 2 * k + 2) (by omega)) (isZ_of (x := r.num * q.den) (k := 2 * k + 2) (by omega)) (by omega)
  have z4 := zlen_add (q.num * r.den) (r.num * q.den)
  have su := rsure (isZ_of (x := q.num * r.den + r.num * q.den) (k := 2 * k + 3) (by omega)) (isZ_of (x := (q.den : Int) * r.den) (k := 2 * k + 3) (by omega)) (by omega)
  have hq : Rat.divInt (q.num * r.den + r.num * q.den) ((q.den : Int) * r.den) = q + r := by rw [← Int.natCast_mul, divInt_mk]; exact qadd_mk q r
  rw [hq] at su
  clear hq
  obtain ⟨x1, hx1⟩ : ∃ x : Int, x = q.num * r.den := ⟨_, rfl⟩
  obtain ⟨x2, hx2⟩ : ∃ x : Int, x = r.num * q.den := ⟨_, rfl⟩
  obtain ⟨x3, hx3⟩ : ∃ x : Int, x = q.den * r.den := ⟨_, rfl⟩
  rw [← hx1] at m1 ad su
  rw [← hx2] at m2 ad su
  rw [← hx3] at m3 su
  obtain ⟨x4, hx4⟩ : ∃ x : Int, x = x1 + x2 := ⟨_, rfl⟩
  rw [← hx4] at ad su
  obtain ⟨s, hs⟩ : ∃ s, s = q + r := ⟨_, rfl⟩
  rw [← hs] at su ⊢
  obtain ⟨g1, e1, c1, rfl, _, _, _⟩ := hv
  obtain ⟨g2, e2, c2, rfl, _, _, _⟩ := hw
  refine spec_at Tryz.func36 ok_ref03_Add [] rfl (by simp) ?_
  unfold sc_ref03_Add
  refine WS_seq (WS_reg [] ?_); simp
  refine WS_seq (WS_reg [] ?_); simp
  refine callK n1 ?_; simp
  refine WS_seq (WS_reg [] ?_); simp
  refine callK n2 ?_; simp
  refine WS_seq (WS_regD [] ?_); simp
  refine callD d2 rfl ?_; simp
  refine callD m1 rfl ?_; simp
  refine callD d1 rfl ?_; simp
  refine callD m2 rfl ?_; simp
  refine callD ad rfl ?_; simp
  refine callD d1 rfl ?_; simp
  refine callD d2 rfl ?_; simp
  refine callD m3 rfl ?_; simp
  refine callD su rfl ?_; simp
  refine ⟨rfl, ?_⟩
  refine WS_ret ?_; simp
theorem rsub3 {k : Nat} {v w : V} {q r : Rat} (hv : IsQ k v q) (hw : IsQ k w r) (hk : k ≤ 2 ^ 19) : Spec Tryz.prog f_ref03_Sub [v, w] (· = [.pure (Q (q - r))]) := by
  have ng := rneg3 hw (by omega)
  have ad := radd3 (hv.mono (show k ≤ k + 1 by omega)) (isQ_Q (ql_neg hw.ql)) (by omega)
  rw [← Rat.sub_eq_add_neg] at ad
  obtain ⟨s, hs⟩ : ∃ s, s = q - r := ⟨_, rfl⟩
  rw [← hs] at ad ⊢
  obtain ⟨t, ht⟩ : ∃ s, s = -r := ⟨_, rfl⟩
  rw [← ht] at ng ad
  obtain ⟨g1, e1, c1, rfl, _, _, _⟩ := hv
  obtain ⟨g2, e2, c2, rfl, _, _, _⟩ := hw
  refine spec_at Tryz.func38 ok_ref03_Sub [] rfl (by simp) ?_
  unfold sc_ref03_Sub
  refine WS_seq (WS_reg [] ?_); simp
  refine WS_seq (WS_regD [] ?_); simp
  refine callD ng rfl ?_; simp
  refine callD ad rfl ?_; simp
  refine ⟨rfl, ?_⟩
  refine WS_ret ?_; simp
theorem rmul3 {k : Nat} {v w : V} {q r : Rat} (hv : IsQ k v q) (hw : IsQ k w r) (hk : k ≤ 2 ^ 20) : Spec Tryz.prog f_ref03_Mul [v, w] (· = [.pure (Q (q * r))]) := by
  have n1 := rnorm3 hv (by omega)
  have n2 := rnorm3 hw (by omega)
  have q1 := hv.ql
  have q2 := hw.ql
  have d1 := rden3_Q q1 (by omega)
  have d2 := rden3_Q q2 (by omega)
  have m1 := rmul (isZ_of q1.num) (isZ_of q2.num) (by omega)
  have m3 := rmul (isZ_of q1.den) (isZ_of q2.den) (by omega)
  have z1 := zlen_mul q.num r.num
  have z3 := zlen_mul q.den r.den
  have b1 := q1.num
  have b2 := q1.den
  have b3 := q2.num
  have b4 := q2.den
  have su := rsure (isZ_of (x := q.num * r.num) (k := 2 * k + 3) (by omega)) (isZ_of (x := (q.den : Int) * r.den) (k := 2 * k + 3) (by omega)) (by omega)
  have hq : Rat.divInt (q.num * r.num) ((q.den : Int) * r.den) = q * r := by rw [← Int.natCast_mul, divInt_mk]; exact qmul_mk q r
  rw [hq] at su
  clear hq
  obtain ⟨x1, hx1⟩ : ∃ x : Int, x = q.num * r.num := ⟨_, rfl⟩
  obtain ⟨x3, hx3⟩ : ∃ x : Int, x = q.den * r.den := ⟨_, rfl⟩
  rw [← hx1] at m1 su
  rw [← hx3] at m3 su
  obtain ⟨s, hs⟩ : ∃ s, s = q * r := ⟨_, rfl⟩
  rw [← hs] at su ⊢
  obtain ⟨g1, e1, c1, rfl, _, _, _⟩ := hv
  obtain ⟨g2, e2, c2, rfl, _, _, _⟩ := hw
  refine spec_at Tryz.func40 ok_ref03_Mul [] rfl (by simp) ?_
  unfold sc_ref03_Mul
  refine WS_seq (WS_reg [] ?_); simp
  refine WS_seq (WS_reg [] ?_); simp
  refine callK n1 ?_; simp
  refine WS_seq (WS_reg [] ?_); simp
  refine callK n2 ?_; simp
  refine WS_seq (WS_regD [] ?_); simp
  refine callD m1 rfl ?_; simp
  refine callD d1 rfl ?_; simp
  refine callD d2 rfl ?_; simp
  refine callD m3 rfl ?_; simp
  refine callD su rfl ?_; simp
  refine ⟨rfl, ?_⟩
  refine WS_ret ?_; simp
theorem rdiv3 {k : Nat} {v w : V} {q r : Rat} (hv : IsQ k v q) (hw : IsQ k w r) (hk : k ≤ 2 ^ 20) : Spec Tryz.prog f_ref03_Div [v, w] (· = divR q r) := by
  have n1 := rnorm3 hv (by omega)
  have n2 := rnorm3 hw (by omega)
  have q1 := hv.ql
  have q2 := hw.ql
  have d1 := rden3_Q q1 (by omega)
  have d2 := rden3_Q q2 (by omega)
  have m1 := rmul (isZ_of q1.num) (isZ_of q2.den) (by omega)
  have m3 := rmul (isZ_of q1.den) (isZ_of q2.num) (by omega)
  have z1 := zlen_mul q.num r.den
  have z3 := zlen_mul q.den r.num
  have b1 := q1.num
  have b2 := q1.den
  have b3 := q2.num
  have b4 := q2.den
  have mk := rmake (isZ_of (x := q.num * r.den) (k := 2 * k + 3) (by omega)) (isZ_of (x := (q.den : Int) * r.num) (k := 2 * k + 3) (by omega)) (by omega)
  have hR : makeR (q.num * r.den) (q.den * r.num) = divR q r := by
    rw [makeR, divR, qdiv_mk2]
    by_cases h : r = 0
    · rw [if_pos h, if_pos (by rw [h]; simp)]
    · rw [if_neg h, if_neg]
      rw [Int.mul_eq_zero]
      rintro (h1 | h1)
      · have := q.den_pos; omega
      · exact h (Rat.num_eq_zero.1 h1)
  rw [hR] at mk
  clear hR
  obtain ⟨x1, hx1⟩ : ∃ x : Int, x = q.num * r.den := ⟨_, rfl⟩
  obtain ⟨x3, hx3⟩ : ∃ x : Int, x = q.den * r.num := ⟨_, rfl⟩
  rw [← hx1] at m1 mk
  rw [← hx3] at m3 mk
  obtain ⟨g1, e1, c1, rfl, _, _, _⟩ := hv
  obtain ⟨g2, e2, c2, rfl, _, _, _⟩ := hw
  refine spec_at Tryz.func30 ok_ref03_Div [] rfl (by simp) ?_
  unfold sc_ref03_Div
  by_cases h : r = 0
  · rw [divR, if_pos h] at mk ⊢
    refine WS_seq (WS_reg [] ?_); simp
    refine WS_seq (WS_reg [] ?_); simp
    refine callK n1 ?_; simp
    refine WS_seq (WS_reg [] ?_); simp
    refine callK n2 ?_; simp
    refine WS_seq (WS_regD [] ?_); simp
    refine callD d2 rfl ?_; simp
    refine callD m1 rfl ?_; simp
    refine callD d1 rfl ?_; simp
    refine callD m3 rfl ?_; simp
    refine callD mk rfl ?_; simp
    refine ⟨rfl, ?_⟩
    refine WS_ret ?_; simp
  · rw [divR, if_neg h] at mk ⊢
    obtain ⟨s, hs⟩ : ∃ s, s = q / r := ⟨_, rfl⟩
    rw [← hs] at mk ⊢
    refine WS_seq (WS_reg [] ?_); simp
    refine WS_seq (WS_reg [] ?_); simp
    refine callK n1 ?_; simp
    refine WS_seq (WS_reg [] ?_); simp
    refine callK n2 ?_; simp
    refine WS_seq (WS_regD [] ?_); simp
    refine callD d2 rfl ?_; simp
    refine callD m1 rfl ?_; simp
    refine callD d1 rfl ?_; simp
    refine callD m3 rfl ?_; simp
    refine callD mk rfl ?_; simp
    refine ⟨rfl, ?_⟩
    refine WS_ret ?_; simp
theorem rcmp3 {k : Nat} {v w : V} {q r : Rat} (hv : IsQ k v q) (hw : IsQ k w r) (hk : k ≤ 2 ^ 19) : Spec Tryz.prog f_ref03_Cmp [v, w] (· = [.pure (.i .i64 (q - r).num.sign)]) := by
  have sb := rsub3 hv hw hk
  have sg := rsign3 (isQ_Q (ql_sub hv.ql hw.ql)) (by omega)
  obtain ⟨s, hs⟩ : ∃ s, s = q - r := ⟨_, rfl⟩
  rw [← hs] at sb sg ⊢
  obtain ⟨g1, e1, c1, rfl, _, _, _⟩ := hv
  obtain ⟨g2, e2, c2, rfl, _, _, _⟩ := hw
  refine spec_at Tryz.func44 ok_ref03_Cmp [] rfl (by simp) ?_
  unfold sc_ref03_Cmp
  refine WS_seq (WS_reg [] ?_); simp
  refine WS_seq (WS_reg [] ?_); simp
  refine callK sb ?_; simp
  refine callK sg ?_; simp
  refine WS_ret ?_; simp
end Go.Vw
set_option linter.unusedVariables false
set_option linter.unusedSimpArgs false
namespace Go.Vw
open Go.Proofs

theorem parseV_minus (r : List UInt8) : parseV (45 :: r) = none := by
  cases h : parseV (45 :: r) with
  | none => rfl
  | some v =>
    have h1 := Nm.decT_parse h
    have h2 := decT_head v
    rw [h1] at h2
    exact absurd rfl h2
theorem parseV_of {b : List UInt8} {d : Int} (h : zP b = some d) (hd : 0 ≤ d) : parseV b = some d.toNat := by
  by_cases hm : b.head? = some 45
  · obtain ⟨r, rfl, _, _⟩ := minus_true hm
    rw [zP_minus] at h
    cases hp : parseV r with
    | none => rw [hp] at h; cases h
    | some v =>
      rw [hp] at h
      have h : (if v = 0 then none else some (-(v : Int))) = some d := h
      split at h
      · cases h
      · simp only [Option.some.injEq] at h
        omega
  · rw [zP_plain hm] at h
    cases hp : parseV b with
    | none => rw [hp] at h; cases h
    | some v =>
      rw [hp] at h
      have h : some (v : Int) = some d := h
      simp only [Option.some.injEq] at h
      rw [← h]; rfl
theorem parseV_neg {b : List UInt8} {d : Int} (h : zP b = some d) (hd : d < 0) : parseV b = none := by
  by_cases hm : b.head? = some 45
  · obtain ⟨r, rfl, _, _⟩ := minus_true hm
    exact parseV_minus r
  · rw [zP_plain hm] at h
    cases hp : parseV b with
    | none => rfl
    | some v =>
      rw [hp] at h
      have h : some (v : Int) = some d := h
      simp only [Option.some.injEq] at h
      omega
theorem parseV_none {b : List UInt8} (h : zP b = none) : parseV b = none := by
  by_cases hm : b.head? = some 45
  · obtain ⟨r, rfl, _, _⟩ := minus_true hm
    exact parseV_minus r
  · rw [zP_plain hm] at h
    cases hp : parseV b with
    | none => rfl
    | some v => rw [hp] at h; cases h
theorem zT_inj {x y : Int} (h : zT x = zT y) (hx : (Nm.decT x.natAbs).length ≤ 4096) (hy : (Nm.decT y.natAbs).length ≤ 4096) : x = y := by
  have h1 := zP_zT hx
  have h2 := zP_zT hy
  rw [h, h2] at h1
  exact (Option.some.inj h1).symm
theorem mkRat_cop {n : Int} {d : Nat} (h0 : d ≠ 0) (h : Int.gcd n (d : Int) = 1) : (mkRat n d).num = n ∧ (mkRat n d).den = d := by
  have e1 := divInt_num (x := n) (y := (d : Int)) (by omega)
  have e2 := divInt_den (x := n) (y := (d : Int)) (by omega)
  rw [h, if_neg (by omega)] at e1
  rw [h] at e2
  rw [divInt_mk] at e1 e2
  refine ⟨by rw [e1]; exact Int.ediv_one _, ?_⟩
  rw [e2]
  have : (d : Int) / ((1 : Nat) : Int) = (d : Int) := Int.ediv_one _
  rw [this, Int.natAbs_natCast]

theorem qP_whole {s : List UInt8} (h : (47 : UInt8) ∉ s) : qP s = (zP s).map (fun n : Int => (n : Rat)) := by
  have hp : parseV [49] = some 1 := by decide +kernel
  rw [qP, cutL_not h]
  simp only [hp]
  cases hz : zP s with
  | none => rfl
  | some n =>
    simp only [Option.map_some]
    have e : mkRat n 1 = (n : Rat) := Rat.mkRat_one n
    rw [e, if_pos]
    rw [qT, if_pos (show ((n : Rat)).den = 1 from rfl)]
    exact zP_inv hz
theorem qP_parts {a b : List UInt8} (h : (47 : UInt8) ∉ a) : qP (a ++ 47 :: b) = match zP a, zP b with
    | some n, some d => if 1 < d ∧ Int.gcd n d = 1 then some (mkRat n d.toNat) else none
    | _, _ => none := by
  rw [qP, cutL_mid h]
  simp only
  cases hz : zP a with
  | none => simp
  | some n =>
    have ta := zP_inv hz
    cases hb : zP b with
    | none => rw [parseV_none hb]
    | some d =>
      simp only
      rcases Int.lt_or_le d 0 with h0 | h0
      · rw [parseV_neg hb h0, if_neg (by omega)]
      · have hp := parseV_of hb h0
        rw [hp]
        simp only
        have tb := Nm.decT_parse hp
        obtain ⟨D, rfl⟩ := Int.eq_ofNat_of_zero_le h0
        rw [Int.toNat_natCast] at *
        have nostroke : ∀ x : Int, zT x ≠ a ++ 47 :: b := fun x e => zT_stroke x (by rw [e]; simp)
        by_cases hg : 1 < (D : Int) ∧ Int.gcd n (D : Int) = 1
        · rw [if_pos hg]
          obtain ⟨e1, e2⟩ := mkRat_cop (n := n) (d := D) (by omega) hg.2
          rw [if_pos]
          rw [qT, e1, e2, if_neg (by omega), ta, tb]
        · rw [if_neg hg, if_neg]
          intro hq
          have hc := cutL_mid (b := b) h
          rw [← hq, qT] at hc
          by_cases hd : (mkRat n D).den = 1
          · rw [qT, if_pos hd] at hq
            exact nostroke _ hq
          · rw [if_neg hd, cutL_mid (zT_stroke _)] at hc
            simp only [Prod.mk.injEq] at hc
            obtain ⟨c1, c2⟩ := hc
            have l1 : (Nm.decT (mkRat n D).num.natAbs).length ≤ 4096 ∧ (Nm.decT n.natAbs).length ≤ 4096 := by
              have key : ∀ x : Int, zT x = a → (Nm.decT x.natAbs).length ≤ 4096 := fun x hx => by
                by_cases hm : a.head? = some 45
                · obtain ⟨r, hr, _, _⟩ := minus_true hm
                  rw [hr, zP_minus] at hz
                  have hx2 : zT x = 45 :: r := by rw [hx, hr]
                  unfold zT at hx2
                  split at hx2
                  · simp only [List.cons.injEq, true_and] at hx2
                    rw [hx2]
                    cases hpr : parseV r with
                    | none => rw [hpr] at hz; cases hz
                    | some v => exact parseV_len hpr
                  · exact absurd (by rw [hx2]; rfl) (decT_head x.natAbs)
                · rw [zP_plain hm] at hz
                  unfold zT at hx
                  split at hx
                  · exact absurd (by rw [← hx]; rfl) hm
                  · rw [hx]
                    cases hpr : parseV a with
                    | none => rw [hpr] at hz; cases hz
                    | some v => exact parseV_len hpr
              exact ⟨key _ c1, key _ ta⟩
            have en := zT_inj (c1.trans ta.symm) l1.1 l1.2
            have ed : (mkRat n D).den = D := by
              have t2 := Nm.parse_decT (n := (mkRat n D).den) (by rw [c2]; exact parseV_len hp)
              rw [c2, hp] at t2
              exact (Option.some.inj t2).symm
            have cop := q_coprime (mkRat n D)
            rw [en, ed] at cop
            have dp := (mkRat n D).den_pos
            rw [ed] at dp hd
            exact hg ⟨by omega, cop⟩

def AtS (s : List UInt8) (P : Nat) (S : St) : Prop := ∃ i : Nat, i ≤ s.length ∧ S.σ 0 = .p (tx s) ∧ S.σ 5 = .p (.i .i64 (i : Int)) ∧ S.σ 4 = .p (.i .i64 ((if P < i then P else s.length : Nat) : Int)) ∧ S.σ 2 = .ptr 2 1 0 ∧ S.h 2 = ⟨1, some (.box 33 [.b false, .sl none [], .sl none []])⟩
def upM (n : Nat) (si : Nat) (S : St) : Nat := match S.σ si with | .p (.i _ k) => n - k.toNat | _ => 0
theorem upM_eq {n si i : Nat} {S : St} (h : S.σ si = .p (.i .i64 (i : Int))) : upM n si S = n - i := by simp only [upM, h]; omega
theorem byte47 {c : UInt8} : c.toNat = 47 ↔ c = 47 := by
  constructor
  · intro h; exact UInt8.toNat_inj.1 h
  · rintro rfl; rfl

attribute [local simp] RunL_cons RunL_nil AOp_none AOp_some acK_v acK_call agK_tt agK_ff agK_tf agK_ft agK_tup agK_i aop aun St.ev St.heap St.put thenQ blockQ scopeQ upd_apply S0 argSlot lowV V.cells V.isAgg V.fits V.part partOk plains St.ret retSV svOf svsOf retQ retP retAll retOne uL_length uL_get? uL_get St.elems retH ownIdx ownAt
attribute [local simp] RunD_none RunD_some RunD_nil RunE_any acD_v acD_call agD_tt agD_ff agD_tf agD_ft agD_tup entsOf svref SO.opds SO.writes SO.makes callEnt pureSV pureOf RV.isOwn
attribute [local simp] abin_add abin_sub abin_mul abin_quo abin_rem abin_eql abin_neq abin_lss abin_leq abin_gtr abin_geq
attribute [local simp] uL_snoc uL_set uL_take uL_drop uL_append uL_replicate uL_nil
attribute [local simp] acK_callG acD_callG St.giv gsSV gvSV retEnts ownEnts SO.still
attribute [local simp] S0G argSlotG givSV retQG retPG retAllG retOneG HObj.width V.scalar trimQ V.byte
attribute [local simp] zv V.fits fillOk fillV Z_eq rv Q_eq
theorem rtext3 {k : Nat} {v : V} {q : Rat} (hv : IsQ k v q) (hk : k ≤ 2 ^ 30) : Spec Tryz.prog f_ref03_Text [v] (· = [.pure (tx (qT q))]) := by
  have nm := rnorm3 hv (by omega)
  have ql := hv.ql
  have dn := rden3_Q ql (by omega)
  have o1 := rof 1 (by omega) (by omega)
  have cm := rcmp (isZ_of ql.den) (isZ_of (x := 1) (k := k + 1) (Nat.le_trans zlen_one (by omega))) (by omega)
  have t1 := rztext (isZ_of ql.num) (by omega)
  have t2 := rtext_spec (qd q.den) (qd_dl _) (by rw [qd_len]; have := ql.den; omega)
  rw [qd_val] at t2
  have l1 := zT_len ql.num
  have l2 := Nm.decT_length (lt_zlen' ql.den)
  rw [Int.natAbs_natCast] at l2
  obtain ⟨n, l, d, rfl, h1, h2, _⟩ := hv
  refine spec_at Tryz.func22 ok_ref03_Text [] rfl (by simp) ?_
  unfold sc_ref03_Text
  by_cases h : q.den = 1
  · rw [h] at cm dn
    rw [show ((1 : Nat) : Int) - 1 = 0 by decide, Int.sign_zero] at cm
    rw [qT, if_pos h]
    refine WS_seq (WS_reg [] ?_); simp [tx]
    refine WS_seq (WS_reg [] ?_); simp [tx]
    refine callK nm ?_; simp [tx]
    refine WS_seq (WS_seq (WS_reg [] ?_)); simp [tx]
    refine callK dn ?_; simp [tx]
    refine callK o1 ?_; simp [tx]
    refine callK cm ?_; simp [tx]
    refine WS_cond (t := true) (by simp [tx]) (fun _ => ?_) (fun h => by cases h)
    refine WS_seq (WS_reg [] ?_); simp [tx]
    refine callK t1 ?_; simp [tx]
    refine WS_ret ?_; simp [tx]
  · have c0 : ¬ ((q.den : Int) - 1).sign = 0 := by rw [Int.sign_eq_zero_iff_zero]; omega
    rw [qT, if_neg h]
    obtain ⟨A, hA⟩ : ∃ A, A = zT q.num := ⟨_, rfl⟩
    obtain ⟨B, hB⟩ : ∃ A, A = Nm.decT q.den := ⟨_, rfl⟩
    rw [← hA] at t1 l1 ⊢
    rw [← hB] at t2 l2 ⊢
    have c1 := bmk_cat A [47] (by simp; omega)
    have c2 := bmk_cat (A ++ [47]) B (by simp; omega)
    have e : A ++ 47 :: B = A ++ [47] ++ B := by simp
    rw [e]
    obtain ⟨C, hC⟩ : ∃ C, C = A ++ [47] := ⟨_, rfl⟩
    rw [← hC] at c1 c2 ⊢
    refine WS_seq (WS_reg [] ?_); simp [tx, U, c0, c1, c2]
    refine WS_seq (WS_reg [] ?_); simp [tx, U, c0, c1, c2]
    refine callK nm ?_; simp [tx, U, c0, c1, c2]
    refine WS_seq (WS_seq (WS_reg [] ?_)); simp [tx, U, c0, c1, c2]
    refine callK dn ?_; simp [tx, U, c0, c1, c2]
    refine callK o1 ?_; simp [tx, U, c0, c1, c2]
    refine callK cm ?_; simp [tx, U, c0, c1, c2]
    refine WS_cond (t := false) (by simp [tx, U, c0, c1, c2]) (fun h => by cases h) (fun _ => ?_)
    refine WS_skip ?_; simp [tx, U, c0, c1, c2]
    refine WS_seq (WS_regD [] ?_); simp [tx, U, c0, c1, c2]
    refine callD t1 rfl ?_; simp [tx, U, c0, c1, c2]
    refine callD t2 rfl ?_; simp [tx, U, c0, c1, c2]
    refine ⟨rfl, ?_⟩
    refine WS_ret ?_; simp [tx, U, c0, c1, c2]

set_option maxHeartbeats 2000000 in
theorem rparse3 (s : List UInt8) (hs : s.length ≤ 2 ^ 40) : Spec Tryz.prog f_ref03_Parse [tx s] (· = qPR (qP s)) := by
  have o1 := rof 1 (by omega) (by omega)
  have e1 : zn 1 = false := by decide
  have e2 : zl 1 = [1] := zl_one (by decide) (by decide)
  have hloop : ∀ (P : Nat), P ≤ s.length → (∀ i (h : i < s.length), s[i] = 47 → P ≤ i) → (∀ h : P < s.length, s[P] = 47) → (∀ S : St, S.σ 0 = .p (tx s) → S.σ 4 = .p (.i .i64 (P : Int)) → S.σ 2 = .ptr 2 1 0 → S.h 2 = ⟨1, some (.box 33 [.b false, .sl none [], .sl none []])⟩ →
      WS Tryz.prog 78 sc_ref03_Parse.snd.snd.snd (retQ [.cell 2 (some 3), .tmp 3] [] (· = qPR (qP s))) S) → Spec Tryz.prog f_ref03_Parse [tx s] (· = qPR (qP s)) := by
    intro P hP hlo hhi hrest
    unfold sc_ref03_Parse at hrest
    simp only [SC.snd] at hrest
    refine spec_at Tryz.func19 ok_ref03_Parse [] rfl (by simp) ?_
    unfold sc_ref03_Parse
    refine WS_seq (WS_reg [] ?_); simp [tx, bmk_size]
    refine WS_seq (WS_reg [] ?_); simp [tx, bmk_size]
    refine WS_seq (WS_seq (WS_reg [] ?_)); simp [tx, bmk_size]
    refine WS_block ?_
    refine WS_loop (AtS s P) (upM s.length 5) ⟨0, by omega, rfl, rfl, by simp, rfl, rfl⟩ ?_
    rintro S ⟨i, hi, s0, s5, s4, s2, h2⟩
    have d5 := upM_eq (n := s.length) s5
    have ss : (s.length : Int) ≤ 2 ^ 40 := by omega
    by_cases hlt : i < s.length
    · have hget : ((⟨s.toArray⟩ : ByteArray).data.toList.getD i 0) = s[i] := by simp [hlt]
      have w1 := i64_succ i (by omega)
      have hltI : (i : Int) < (s.length : Int) := by omega
      by_cases h47 : s[i] = 47
      · have hPi := hlo i hlt h47
        have hc : s[i].toNat = 47 := byte47.2 h47
        obtain ⟨A, hA⟩ : ∃ A, A = (if P < i then P else s.length) := ⟨_, rfl⟩
        rw [← hA] at s4
        have hm1 : (if (i : Int) < (A : Int) then (i : Int) else (A : Int)) = (P : Int) := by
          by_cases hpi : P < i
          · rw [if_pos hpi] at hA; rw [if_neg (by omega)]; omega
          · rw [if_neg hpi] at hA; rw [if_pos (by omega)]; omega
        have hm2 : (if i < A then (i : Int) else (A : Int)) = (P : Int) := by
          by_cases hpi : P < i
          · rw [if_pos hpi] at hA; rw [if_neg (by omega)]; omega
          · rw [if_neg hpi] at hA; rw [if_pos (by omega)]; omega
        refine WS_seq (WS_seq (WS_reg [] ?_)); simp [s0, s5, s4, s2, h2, tx, bmk_size, hlt, hltI, hget, hc, w1, hm1, hm2]
        refine WS_cond (t := true) (by simp [s0, s5, s4, s2, h2, tx, bmk_size, hlt, hltI, hget, hc, w1, hm1, hm2]) (fun _ => ?_) (fun h => by cases h)
        refine WS_skip ?_; simp [s0, s5, s4, s2, h2, tx, bmk_size, hlt, hltI, hget, hc, w1, hm1, hm2]
        refine WS_seq (WS_block (WS_seq (WS_reg [] ?_))); simp [s0, s5, s4, s2, h2, tx, bmk_size, hlt, hltI, hget, hc, w1, hm1, hm2]
        refine WS_cond (t := true) (by simp [s0, s5, s4, s2, h2, tx, bmk_size, hlt, hltI, hget, hc, w1, hm1, hm2]) (fun _ => ?_) (fun h => by cases h)
        refine WS_reg [] ?_; simp [s0, s5, s4, s2, h2, tx, bmk_size, hlt, hltI, hget, hc, w1, hm1, hm2]
        refine WS_reg [] ?_; simp [s0, s5, s4, s2, h2, tx, bmk_size, hlt, hltI, hget, hc, w1, hm1, hm2]
        refine ⟨⟨i + 1, by omega, by simp [s0, tx], by simp, by rw [if_pos (by omega)]; simp, by simp [s2], by simp [h2]⟩, ?_⟩
        rw [d5, upM_eq (i := i + 1) (by simp)]
        omega
      · have hc : ¬ s[i].toNat = 47 := fun e => h47 (byte47.1 e)
        have hcI : ¬ ((s[i].toNat : Nat) : Int) = 47 := by omega
        have hPi : (if P < i then P else s.length) = (if P < i + 1 then P else s.length) := by
          by_cases hpi : P = i
          · subst hpi; exact absurd (hhi hlt) h47
          · by_cases h' : P < i
            · rw [if_pos h', if_pos (by omega)]
            · rw [if_neg h', if_neg (by omega)]
        rw [hPi] at s4
        refine WS_seq (WS_seq (WS_reg [] ?_)); simp [s0, s5, s4, s2, h2, tx, bmk_size, hlt, hltI, hget, hc, hcI, w1]
        refine WS_cond (t := true) (by simp [s0, s5, s4, s2, h2, tx, bmk_size, hlt, hltI, hget, hc, hcI, w1]) (fun _ => ?_) (fun h => by cases h)
        refine WS_skip ?_; simp [s0, s5, s4, s2, h2, tx, bmk_size, hlt, hltI, hget, hc, hcI, w1]
        refine WS_seq (WS_block (WS_seq (WS_reg [] ?_))); simp [s0, s5, s4, s2, h2, tx, bmk_size, hlt, hltI, hget, hc, hcI, w1]
        refine WS_cond (t := false) (by simp [s0, s5, s4, s2, h2, tx, bmk_size, hlt, hltI, hget, hc, hcI, w1]) (fun h => by cases h) (fun _ => ?_)
        refine WS_skip ?_; simp [s0, s5, s4, s2, h2, tx, bmk_size, hlt, hltI, hget, hc, hcI, w1]
        refine WS_reg [] ?_; simp [s0, s5, s4, s2, h2, tx, bmk_size, hlt, hltI, hget, hc, hcI, w1]
        refine ⟨⟨i + 1, by omega, by simp [s0, tx], by simp, by simp [s4], by simp [s2], by simp [h2]⟩, ?_⟩
        rw [d5, upM_eq (i := i + 1) (by simp)]
        omega
    · have hie : i = s.length := by omega
      have hPe : (if P < i then P else s.length) = P := by split <;> omega
      rw [hPe] at s4
      have hltI : ¬ (i : Int) < (s.length : Int) := by omega
      refine WS_seq (WS_seq (WS_reg [] ?_)); simp [s0, s5, s4, s2, h2, tx, bmk_size, hltI]
      refine WS_cond (t := false) (by simp [s0, s5, s4, s2, h2, tx, bmk_size, hltI]) (fun h => by cases h) (fun _ => ?_)
      refine WS_exit ?_; simp [s0, s5, s4, s2, h2, tx, bmk_size, hltI]
      refine hrest _ ?_ ?_ ?_ ?_
      · simp [s0, tx]
      · simp [s4]
      · simp [s2]
      · simp [h2]
  have ss : (s.length : Int) ≤ 2 ^ 40 := by omega
  rcases strokeAt_facts s with ⟨-, h2⟩ | ⟨a, b, hab, h2, -⟩
  · refine hloop s.length (Nat.le_refl _) (fun i h e => absurd (e ▸ List.getElem_mem h) h2) (fun h => absurd h (by omega)) ?_
    intro S s0 s4 s2 hh2
    have zp := rzparse s hs
    have ex := bmk_extract s 0 s.length
    rw [show (s.take s.length).drop 0 = s by simp] at ex
    rw [qP_whole h2]
    have hll : ¬ (s.length : Int) < (s.length : Int) := by omega
    unfold sc_ref03_Parse
    simp only [SC.snd]
    cases hz : zP s with
    | none =>
      rw [hz] at zp
      simp only [Option.map_none, qPR]
      refine WS_seq (WS_reg [] ?_); simp [s0, s4, s2, hh2, tx, bmk_size, ex, zPR]
      refine callK zp ?_; simp [s0, s4, s2, hh2, tx, bmk_size, ex, zPR]
      refine WS_seq (WS_seq (WS_reg [] ?_)); simp [s0, s4, s2, hh2, tx, bmk_size, ex, zPR]
      refine WS_cond (t := true) (by simp [s0, s4, s2, hh2, tx, bmk_size, ex, zPR]) (fun _ => ?_) (fun h => by cases h)
      refine WS_seq (WS_reg [] ?_); simp [s0, s4, s2, hh2, tx, bmk_size, ex, zPR]
      refine WS_ret ?_; simp [s0, s4, s2, hh2, tx, bmk_size, ex, zPR]
    | some n =>
      rw [hz] at zp
      simp only [Option.map_some, qPR]
      rw [Q_int]
      have sg := rsign (isZ_of (x := 1) (k := 1) zlen_one) (by omega)
      rw [show (1 : Int).sign = 1 by decide] at sg
      refine WS_seq (WS_reg [] ?_); simp [s0, s4, s2, hh2, tx, bmk_size, ex, zPR, e1, e2]
      refine callK zp ?_; simp [s0, s4, s2, hh2, tx, bmk_size, ex, zPR, e1, e2]
      refine WS_seq (WS_seq (WS_reg [] ?_)); simp [s0, s4, s2, hh2, tx, bmk_size, ex, zPR, e1, e2]
      refine WS_cond (t := false) (by simp [s0, s4, s2, hh2, tx, bmk_size, ex, zPR, e1, e2]) (fun h => by cases h) (fun _ => ?_)
      refine WS_skip ?_; simp [s0, s4, s2, hh2, tx, bmk_size, ex, zPR, e1, e2]
      refine WS_seq (WS_reg [] ?_); simp [s0, s4, s2, hh2, tx, bmk_size, ex, zPR, e1, e2]
      refine callK o1 ?_; simp [s0, s4, s2, hh2, tx, bmk_size, ex, zPR, e1, e2]
      refine WS_seq (WS_seq (WS_reg [] ?_)); simp [s0, s4, s2, hh2, tx, bmk_size, ex, zPR, e1, e2]
      refine WS_cond (t := false) (by simp [s0, s4, s2, hh2, tx, bmk_size, ex, zPR, e1, e2]) (fun h => by cases h) (fun _ => ?_)
      refine WS_skip ?_; simp [s0, s4, s2, hh2, tx, bmk_size, ex, zPR, e1, e2]
      refine WS_seq (WS_seq (WS_reg [] ?_)); simp [s0, s4, s2, hh2, tx, bmk_size, ex, zPR, e1, e2]
      refine callK sg ?_; simp [s0, s4, s2, hh2, tx, bmk_size, ex, zPR, e1, e2]
      refine WS_cond (t := false) (by simp [s0, s4, s2, hh2, tx, bmk_size, ex, zPR, e1, e2]) (fun h => by cases h) (fun _ => ?_)
      refine WS_skip ?_; simp [s0, s4, s2, hh2, tx, bmk_size, ex, zPR, e1, e2]
      refine WS_seq (WS_seq (WS_regD [] ?_)); simp [s0, s4, s2, hh2, tx, bmk_size, ex, zPR, e1, e2]
      refine ⟨rfl, ?_⟩
      refine WS_cond (t := false) (by simp [s0, s4, s2, hh2, tx, bmk_size, ex, zPR, e1, e2]) (fun h => by cases h) (fun _ => ?_)
      refine WS_skip ?_; simp [s0, s4, s2, hh2, tx, bmk_size, ex, zPR, e1, e2]
      refine WS_seq (WS_reg [] ?_); simp [s0, s4, s2, hh2, tx, bmk_size, ex, zPR, e1, e2]
      refine WS_ret ?_; simp [s0, s4, s2, hh2, tx, bmk_size, ex, zPR, e1, e2]
  · have hlen : s.length = a.length + (b.length + 1) := by rw [hab]; simp
    have ta : s.take a.length = a := by rw [hab]; simp
    have tb : s.drop (a.length + 1) = b := by rw [hab]; simp
    refine hloop a.length (by omega) (fun i h e => ?_) (fun h => by simp [hab]) ?_
    · rcases Nat.lt_or_ge i a.length with h3 | h3
      · exfalso
        have : s[i] = a[i] := by simp [hab, h3]
        rw [this] at e
        exact h2 (e ▸ List.getElem_mem h3)
      · exact h3
    intro S s0 s4 s2 hh2
    have zp := rzparse a (by omega)
    have zq := rzparse b (by omega)
    have ex := bmk_extract s 0 a.length
    rw [show (s.take a.length).drop 0 = a by simpa using ta] at ex
    have ey := bmk_extract s (a.length + 1) s.length
    rw [show (s.take s.length).drop (a.length + 1) = b by simpa using tb] at ey
    have hq := qP_parts (a := a) (b := b) h2
    rw [← hab] at hq
    rw [hq]
    have hll : (a.length : Int) < (s.length : Int) := by omega
    have hle : (a.length : Int) ≤ (s.length : Int) := by omega
    have w1 := i64_succ a.length (by omega)
    have hle2 : (a.length : Int) + 1 ≤ (s.length : Int) := by omega
    have hle3 : (0 : Int) ≤ (a.length : Int) + 1 := by omega
    have hn1 : ((a.length : Int) + 1).toNat = a.length + 1 := by omega
    unfold sc_ref03_Parse
    simp only [SC.snd]
    cases hz : zP a with
    | none =>
      rw [hz] at zp
      simp only [qPR]
      refine WS_seq (WS_reg [] ?_); simp [s0, s4, s2, hh2, tx, bmk_size, ex, zPR, hle]
      refine callK zp ?_; simp [s0, s4, s2, hh2, tx, bmk_size, ex, zPR, hle]
      refine WS_seq (WS_seq (WS_reg [] ?_)); simp [s0, s4, s2, hh2, tx, bmk_size, ex, zPR, hle]
      refine WS_cond (t := true) (by simp [s0, s4, s2, hh2, tx, bmk_size, ex, zPR, hle]) (fun _ => ?_) (fun h => by cases h)
      refine WS_seq (WS_reg [] ?_); simp [s0, s4, s2, hh2, tx, bmk_size, ex, zPR, hle]
      refine WS_ret ?_; simp [s0, s4, s2, hh2, tx, bmk_size, ex, zPR, hle]
    | some n =>
      rw [hz] at zp
      have hnl := zP_len hz
      cases hb : zP b with
      | none =>
        rw [hb] at zq
        simp only [qPR]
        refine WS_seq (WS_reg [] ?_); simp [s0, s4, s2, hh2, tx, bmk_size, ex, ey, zPR, hle, hll, w1, hle2, hle3, hn1]
        refine callK zp ?_; simp [s0, s4, s2, hh2, tx, bmk_size, ex, ey, zPR, hle, hll, w1, hle2, hle3, hn1]
        refine WS_seq (WS_seq (WS_reg [] ?_)); simp [s0, s4, s2, hh2, tx, bmk_size, ex, ey, zPR, hle, hll, w1, hle2, hle3, hn1]
        refine WS_cond (t := false) (by simp [s0, s4, s2, hh2, tx, bmk_size, ex, ey, zPR, hle, hll, w1, hle2, hle3, hn1]) (fun h => by cases h) (fun _ => ?_)
        refine WS_skip ?_; simp [s0, s4, s2, hh2, tx, bmk_size, ex, ey, zPR, hle, hll, w1, hle2, hle3, hn1]
        refine WS_seq (WS_reg [] ?_); simp [s0, s4, s2, hh2, tx, bmk_size, ex, ey, zPR, hle, hll, w1, hle2, hle3, hn1]
        refine callK o1 ?_; simp [s0, s4, s2, hh2, tx, bmk_size, ex, ey, zPR, hle, hll, w1, hle2, hle3, hn1]
        refine WS_seq (WS_seq (WS_reg [] ?_)); simp [s0, s4, s2, hh2, tx, bmk_size, ex, ey, zPR, hle, hll, w1, hle2, hle3, hn1]
        refine WS_cond (t := true) (by simp [s0, s4, s2, hh2, tx, bmk_size, ex, ey, zPR, hle, hll, w1, hle2, hle3, hn1]) (fun _ => ?_) (fun h => by cases h)
        refine WS_reg [] ?_; simp [s0, s4, s2, hh2, tx, bmk_size, ex, ey, zPR, hle, hll, w1, hle2, hle3, hn1]
        refine callK zq ?_; simp [s0, s4, s2, hh2, tx, bmk_size, ex, ey, zPR, hle, hll, w1, hle2, hle3, hn1]
        refine WS_seq (WS_seq (WS_reg [] ?_)); simp [s0, s4, s2, hh2, tx, bmk_size, ex, ey, zPR, hle, hll, w1, hle2, hle3, hn1]
        refine WS_cond (t := true) (by simp [s0, s4, s2, hh2, tx, bmk_size, ex, ey, zPR, hle, hll, w1, hle2, hle3, hn1]) (fun _ => ?_) (fun h => by cases h)
        refine WS_seq (WS_reg [] ?_); simp [s0, s4, s2, hh2, tx, bmk_size, ex, ey, zPR, hle, hll, w1, hle2, hle3, hn1]
        refine WS_ret ?_; simp [s0, s4, s2, hh2, tx, bmk_size, ex, ey, zPR, hle, hll, w1, hle2, hle3, hn1]
      | some d =>
        rw [hb] at zq
        have hdl := zP_len hb
        have sg := rsign (isZ_of hdl) (by omega)
        simp only
        by_cases d0 : d ≤ 0
        · have hs0 : d.sign ≤ 0 := by rw [Int.sign_nonpos_iff]; exact d0
          rw [if_neg (by omega)]
          simp only [qPR]
          refine WS_seq (WS_reg [] ?_); simp [s0, s4, s2, hh2, tx, bmk_size, ex, ey, zPR, hle, hll, w1, hle2, hle3, hn1, hs0]
          refine callK zp ?_; simp [s0, s4, s2, hh2, tx, bmk_size, ex, ey, zPR, hle, hll, w1, hle2, hle3, hn1, hs0]
          refine WS_seq (WS_seq (WS_reg [] ?_)); simp [s0, s4, s2, hh2, tx, bmk_size, ex, ey, zPR, hle, hll, w1, hle2, hle3, hn1, hs0]
          refine WS_cond (t := false) (by simp [s0, s4, s2, hh2, tx, bmk_size, ex, ey, zPR, hle, hll, w1, hle2, hle3, hn1, hs0]) (fun h => by cases h) (fun _ => ?_)
          refine WS_skip ?_; simp [s0, s4, s2, hh2, tx, bmk_size, ex, ey, zPR, hle, hll, w1, hle2, hle3, hn1, hs0]
          refine WS_seq (WS_reg [] ?_); simp [s0, s4, s2, hh2, tx, bmk_size, ex, ey, zPR, hle, hll, w1, hle2, hle3, hn1, hs0]
          refine callK o1 ?_; simp [s0, s4, s2, hh2, tx, bmk_size, ex, ey, zPR, hle, hll, w1, hle2, hle3, hn1, hs0]
          refine WS_seq (WS_seq (WS_reg [] ?_)); simp [s0, s4, s2, hh2, tx, bmk_size, ex, ey, zPR, hle, hll, w1, hle2, hle3, hn1, hs0]
          refine WS_cond (t := true) (by simp [s0, s4, s2, hh2, tx, bmk_size, ex, ey, zPR, hle, hll, w1, hle2, hle3, hn1, hs0]) (fun _ => ?_) (fun h => by cases h)
          refine WS_reg [] ?_; simp [s0, s4, s2, hh2, tx, bmk_size, ex, ey, zPR, hle, hll, w1, hle2, hle3, hn1, hs0]
          refine callK zq ?_; simp [s0, s4, s2, hh2, tx, bmk_size, ex, ey, zPR, hle, hll, w1, hle2, hle3, hn1, hs0]
          refine WS_seq (WS_seq (WS_reg [] ?_)); simp [s0, s4, s2, hh2, tx, bmk_size, ex, ey, zPR, hle, hll, w1, hle2, hle3, hn1, hs0]
          refine callK sg ?_; simp [s0, s4, s2, hh2, tx, bmk_size, ex, ey, zPR, hle, hll, w1, hle2, hle3, hn1, hs0]
          refine WS_cond (t := true) (by simp [s0, s4, s2, hh2, tx, bmk_size, ex, ey, zPR, hle, hll, w1, hle2, hle3, hn1, hs0]) (fun _ => ?_) (fun h => by cases h)
          refine WS_seq (WS_reg [] ?_); simp [s0, s4, s2, hh2, tx, bmk_size, ex, ey, zPR, hle, hll, w1, hle2, hle3, hn1, hs0]
          refine WS_ret ?_; simp [s0, s4, s2, hh2, tx, bmk_size, ex, ey, zPR, hle, hll, w1, hle2, hle3, hn1, hs0]
        · have hs0 : d.sign = 1 := sign_gt (by omega)
          rw [hs0] at sg
          have c1 := rcmp (isZ_of hdl) (isZ_of (x := 1) (k := 4096) (Nat.le_trans zlen_one (by omega))) (by omega)
          by_cases d1 : d = 1
          · subst d1
            rw [Int.sub_self, Int.sign_zero] at c1
            rw [if_neg (by omega)]
            simp only [qPR]
            refine WS_seq (WS_reg [] ?_); simp [s0, s4, s2, hh2, tx, bmk_size, ex, ey, zPR, hle, hll, w1, hle2, hle3, hn1]
            refine callK zp ?_; simp [s0, s4, s2, hh2, tx, bmk_size, ex, ey, zPR, hle, hll, w1, hle2, hle3, hn1]
            refine WS_seq (WS_seq (WS_reg [] ?_)); simp [s0, s4, s2, hh2, tx, bmk_size, ex, ey, zPR, hle, hll, w1, hle2, hle3, hn1]
            refine WS_cond (t := false) (by simp [s0, s4, s2, hh2, tx, bmk_size, ex, ey, zPR, hle, hll, w1, hle2, hle3, hn1]) (fun h => by cases h) (fun _ => ?_)
            refine WS_skip ?_; simp [s0, s4, s2, hh2, tx, bmk_size, ex, ey, zPR, hle, hll, w1, hle2, hle3, hn1]
            refine WS_seq (WS_reg [] ?_); simp [s0, s4, s2, hh2, tx, bmk_size, ex, ey, zPR, hle, hll, w1, hle2, hle3, hn1]
            refine callK o1 ?_; simp [s0, s4, s2, hh2, tx, bmk_size, ex, ey, zPR, hle, hll, w1, hle2, hle3, hn1]
            refine WS_seq (WS_seq (WS_reg [] ?_)); simp [s0, s4, s2, hh2, tx, bmk_size, ex, ey, zPR, hle, hll, w1, hle2, hle3, hn1]
            refine WS_cond (t := true) (by simp [s0, s4, s2, hh2, tx, bmk_size, ex, ey, zPR, hle, hll, w1, hle2, hle3, hn1]) (fun _ => ?_) (fun h => by cases h)
            refine WS_reg [] ?_; simp [s0, s4, s2, hh2, tx, bmk_size, ex, ey, zPR, hle, hll, w1, hle2, hle3, hn1]
            refine callK zq ?_; simp [s0, s4, s2, hh2, tx, bmk_size, ex, ey, zPR, hle, hll, w1, hle2, hle3, hn1]
            refine WS_seq (WS_seq (WS_reg [] ?_)); simp [s0, s4, s2, hh2, tx, bmk_size, ex, ey, zPR, hle, hll, w1, hle2, hle3, hn1]
            refine callK sg ?_; simp [s0, s4, s2, hh2, tx, bmk_size, ex, ey, zPR, hle, hll, w1, hle2, hle3, hn1]
            refine WS_cond (t := false) (by simp [s0, s4, s2, hh2, tx, bmk_size, ex, ey, zPR, hle, hll, w1, hle2, hle3, hn1]) (fun h => by cases h) (fun _ => ?_)
            refine WS_skip ?_; simp [s0, s4, s2, hh2, tx, bmk_size, ex, ey, zPR, hle, hll, w1, hle2, hle3, hn1]
            refine WS_seq (WS_seq (WS_regD [] ?_)); simp [s0, s4, s2, hh2, tx, bmk_size, ex, ey, zPR, hle, hll, w1, hle2, hle3, hn1]
            refine callD o1 rfl ?_; simp [s0, s4, s2, hh2, tx, bmk_size, ex, ey, zPR, hle, hll, w1, hle2, hle3, hn1]
            refine callD c1 rfl ?_; simp [s0, s4, s2, hh2, tx, bmk_size, ex, ey, zPR, hle, hll, w1, hle2, hle3, hn1]
            refine ⟨rfl, ?_⟩
            refine WS_cond (t := true) (by simp [s0, s4, s2, hh2, tx, bmk_size, ex, ey, zPR, hle, hll, w1, hle2, hle3, hn1]) (fun _ => ?_) (fun h => by cases h)
            refine WS_seq (WS_reg [] ?_); simp [s0, s4, s2, hh2, tx, bmk_size, ex, ey, zPR, hle, hll, w1, hle2, hle3, hn1]
            refine WS_ret ?_; simp [s0, s4, s2, hh2, tx, bmk_size, ex, ey, zPR, hle, hll, w1, hle2, hle3, hn1]
          · have hs1 : (d - 1).sign = 1 := sign_gt (by omega)
            rw [hs1] at c1
            have gd := rgcd (isZ_of hnl) (isZ_of hdl) (by omega)
            have gl := gcd_len hnl hdl
            have c2 := rcmp (isZ_of gl) (isZ_of (x := 1) (k := 4096) (Nat.le_trans zlen_one (by omega))) (by omega)
            by_cases hg : Int.gcd n d = 1
            · rw [if_pos ⟨by omega, hg⟩]
              rw [hg, show ((1 : Nat) : Int) - 1 = 0 by decide, Int.sign_zero] at c2
              rw [hg] at gd
              obtain ⟨D, rfl⟩ := Int.eq_ofNat_of_zero_le (show 0 ≤ d by omega)
              obtain ⟨m1, m2⟩ := mkRat_cop (n := n) (d := D) (by omega) hg
              rw [Int.toNat_natCast]
              have eq : Q (mkRat n D) = rv (zn n) (zl n) (zl (D : Int)) := by rw [Q, m1, m2, qd_zl]
              simp only [qPR]
              rw [eq]
              refine WS_seq (WS_reg [] ?_); simp [s0, s4, s2, hh2, tx, bmk_size, ex, ey, zPR, hle, hll, w1, hle2, hle3, hn1]
              refine callK zp ?_; simp [s0, s4, s2, hh2, tx, bmk_size, ex, ey, zPR, hle, hll, w1, hle2, hle3, hn1]
              refine WS_seq (WS_seq (WS_reg [] ?_)); simp [s0, s4, s2, hh2, tx, bmk_size, ex, ey, zPR, hle, hll, w1, hle2, hle3, hn1]
              refine WS_cond (t := false) (by simp [s0, s4, s2, hh2, tx, bmk_size, ex, ey, zPR, hle, hll, w1, hle2, hle3, hn1]) (fun h => by cases h) (fun _ => ?_)
              refine WS_skip ?_; simp [s0, s4, s2, hh2, tx, bmk_size, ex, ey, zPR, hle, hll, w1, hle2, hle3, hn1]
              refine WS_seq (WS_reg [] ?_); simp [s0, s4, s2, hh2, tx, bmk_size, ex, ey, zPR, hle, hll, w1, hle2, hle3, hn1]
              refine callK o1 ?_; simp [s0, s4, s2, hh2, tx, bmk_size, ex, ey, zPR, hle, hll, w1, hle2, hle3, hn1]
              refine WS_seq (WS_seq (WS_reg [] ?_)); simp [s0, s4, s2, hh2, tx, bmk_size, ex, ey, zPR, hle, hll, w1, hle2, hle3, hn1]
              refine WS_cond (t := true) (by simp [s0, s4, s2, hh2, tx, bmk_size, ex, ey, zPR, hle, hll, w1, hle2, hle3, hn1]) (fun _ => ?_) (fun h => by cases h)
              refine WS_reg [] ?_; simp [s0, s4, s2, hh2, tx, bmk_size, ex, ey, zPR, hle, hll, w1, hle2, hle3, hn1]
              refine callK zq ?_; simp [s0, s4, s2, hh2, tx, bmk_size, ex, ey, zPR, hle, hll, w1, hle2, hle3, hn1]
              refine WS_seq (WS_seq (WS_reg [] ?_)); simp [s0, s4, s2, hh2, tx, bmk_size, ex, ey, zPR, hle, hll, w1, hle2, hle3, hn1]
              refine callK sg ?_; simp [s0, s4, s2, hh2, tx, bmk_size, ex, ey, zPR, hle, hll, w1, hle2, hle3, hn1]
              refine WS_cond (t := false) (by simp [s0, s4, s2, hh2, tx, bmk_size, ex, ey, zPR, hle, hll, w1, hle2, hle3, hn1]) (fun h => by cases h) (fun _ => ?_)
              refine WS_skip ?_; simp [s0, s4, s2, hh2, tx, bmk_size, ex, ey, zPR, hle, hll, w1, hle2, hle3, hn1]
              refine WS_seq (WS_seq (WS_regD [] ?_)); simp [s0, s4, s2, hh2, tx, bmk_size, ex, ey, zPR, hle, hll, w1, hle2, hle3, hn1]
              refine callD o1 rfl ?_; simp [s0, s4, s2, hh2, tx, bmk_size, ex, ey, zPR, hle, hll, w1, hle2, hle3, hn1]
              refine callD c1 rfl ?_; simp [s0, s4, s2, hh2, tx, bmk_size, ex, ey, zPR, hle, hll, w1, hle2, hle3, hn1]
              refine callD gd rfl ?_; simp [s0, s4, s2, hh2, tx, bmk_size, ex, ey, zPR, hle, hll, w1, hle2, hle3, hn1]
              refine callD o1 rfl ?_; simp [s0, s4, s2, hh2, tx, bmk_size, ex, ey, zPR, hle, hll, w1, hle2, hle3, hn1]
              refine callD c2 rfl ?_; simp [s0, s4, s2, hh2, tx, bmk_size, ex, ey, zPR, hle, hll, w1, hle2, hle3, hn1]
              refine ⟨rfl, ?_⟩
              refine WS_cond (t := false) (by simp [s0, s4, s2, hh2, tx, bmk_size, ex, ey, zPR, hle, hll, w1, hle2, hle3, hn1]) (fun h => by cases h) (fun _ => ?_)
              refine WS_skip ?_; simp [s0, s4, s2, hh2, tx, bmk_size, ex, ey, zPR, hle, hll, w1, hle2, hle3, hn1]
              refine WS_seq (WS_reg [] ?_); simp [s0, s4, s2, hh2, tx, bmk_size, ex, ey, zPR, hle, hll, w1, hle2, hle3, hn1]
              refine WS_ret ?_; simp [s0, s4, s2, hh2, tx, bmk_size, ex, ey, zPR, hle, hll, w1, hle2, hle3, hn1]
            · rw [if_neg (by omega)]
              have hs2 : ¬ ((Int.gcd n d : Int) - 1).sign = 0 := by rw [Int.sign_eq_zero_iff_zero]; omega
              obtain ⟨G, hG⟩ : ∃ g : Int, g = (Int.gcd n d : Int) := ⟨_, rfl⟩
              rw [← hG] at gd c2 hs2
              simp only [qPR]
              refine WS_seq (WS_reg [] ?_); simp [s0, s4, s2, hh2, tx, bmk_size, ex, ey, zPR, hle, hll, w1, hle2, hle3, hn1, hs2]
              refine callK zp ?_; simp [s0, s4, s2, hh2, tx, bmk_size, ex, ey, zPR, hle, hll, w1, hle2, hle3, hn1, hs2]
              refine WS_seq (WS_seq (WS_reg [] ?_)); simp [s0, s4, s2, hh2, tx, bmk_size, ex, ey, zPR, hle, hll, w1, hle2, hle3, hn1, hs2]
              refine WS_cond (t := false) (by simp [s0, s4, s2, hh2, tx, bmk_size, ex, ey, zPR, hle, hll, w1, hle2, hle3, hn1, hs2]) (fun h => by cases h) (fun _ => ?_)
              refine WS_skip ?_; simp [s0, s4, s2, hh2, tx, bmk_size, ex, ey, zPR, hle, hll, w1, hle2, hle3, hn1, hs2]
              refine WS_seq (WS_reg [] ?_); simp [s0, s4, s2, hh2, tx, bmk_size, ex, ey, zPR, hle, hll, w1, hle2, hle3, hn1, hs2]
              refine callK o1 ?_; simp [s0, s4, s2, hh2, tx, bmk_size, ex, ey, zPR, hle, hll, w1, hle2, hle3, hn1, hs2]
              refine WS_seq (WS_seq (WS_reg [] ?_)); simp [s0, s4, s2, hh2, tx, bmk_size, ex, ey, zPR, hle, hll, w1, hle2, hle3, hn1, hs2]
              refine WS_cond (t := true) (by simp [s0, s4, s2, hh2, tx, bmk_size, ex, ey, zPR, hle, hll, w1, hle2, hle3, hn1, hs2]) (fun _ => ?_) (fun h => by cases h)
              refine WS_reg [] ?_; simp [s0, s4, s2, hh2, tx, bmk_size, ex, ey, zPR, hle, hll, w1, hle2, hle3, hn1, hs2]
              refine callK zq ?_; simp [s0, s4, s2, hh2, tx, bmk_size, ex, ey, zPR, hle, hll, w1, hle2, hle3, hn1, hs2]
              refine WS_seq (WS_seq (WS_reg [] ?_)); simp [s0, s4, s2, hh2, tx, bmk_size, ex, ey, zPR, hle, hll, w1, hle2, hle3, hn1, hs2]
              refine callK sg ?_; simp [s0, s4, s2, hh2, tx, bmk_size, ex, ey, zPR, hle, hll, w1, hle2, hle3, hn1, hs2]
              refine WS_cond (t := false) (by simp [s0, s4, s2, hh2, tx, bmk_size, ex, ey, zPR, hle, hll, w1, hle2, hle3, hn1, hs2]) (fun h => by cases h) (fun _ => ?_)
              refine WS_skip ?_; simp [s0, s4, s2, hh2, tx, bmk_size, ex, ey, zPR, hle, hll, w1, hle2, hle3, hn1, hs2]
              refine WS_seq (WS_seq (WS_regD [] ?_)); simp [s0, s4, s2, hh2, tx, bmk_size, ex, ey, zPR, hle, hll, w1, hle2, hle3, hn1, hs2]
              refine callD o1 rfl ?_; simp [s0, s4, s2, hh2, tx, bmk_size, ex, ey, zPR, hle, hll, w1, hle2, hle3, hn1, hs2]
              refine callD c1 rfl ?_; simp [s0, s4, s2, hh2, tx, bmk_size, ex, ey, zPR, hle, hll, w1, hle2, hle3, hn1, hs2]
              refine callD gd rfl ?_; simp [s0, s4, s2, hh2, tx, bmk_size, ex, ey, zPR, hle, hll, w1, hle2, hle3, hn1, hs2]
              refine callD o1 rfl ?_; simp [s0, s4, s2, hh2, tx, bmk_size, ex, ey, zPR, hle, hll, w1, hle2, hle3, hn1, hs2]
              refine callD c2 rfl ?_; simp [s0, s4, s2, hh2, tx, bmk_size, ex, ey, zPR, hle, hll, w1, hle2, hle3, hn1, hs2]
              refine ⟨rfl, ?_⟩
              refine WS_cond (t := true) (by simp [s0, s4, s2, hh2, tx, bmk_size, ex, ey, zPR, hle, hll, w1, hle2, hle3, hn1, hs2]) (fun _ => ?_) (fun h => by cases h)
              refine WS_seq (WS_reg [] ?_); simp [s0, s4, s2, hh2, tx, bmk_size, ex, ey, zPR, hle, hll, w1, hle2, hle3, hn1, hs2]
              refine WS_ret ?_; simp [s0, s4, s2, hh2, tx, bmk_size, ex, ey, zPR, hle, hll, w1, hle2, hle3, hn1, hs2]
end Go.Vw
set_option linter.unusedVariables false
set_option linter.unusedSimpArgs false
namespace Go.Vw
open Go.Proofs

theorem few3_both {n : Nat} {n1 n2 : Bool} {l1 l2 d1 d2 : List Nat} (h : few3B n [(n1, l1, d1), (n2, l2, d2)] = true) : l1.length ≤ n ∧ d1.length ≤ n ∧ l2.length ≤ n ∧ d2.length ≤ n := by
  simp [few3B] at h
  omega
theorem few3_alone {n : Nat} {n1 : Bool} {l1 d1 : List Nat} (h : few3B n [(n1, l1, d1)] = true) : l1.length ≤ n ∧ d1.length ≤ n := by
  simpa [few3B] using h

attribute [local simp] RunL_cons RunL_nil AOp_none AOp_some acK_v acK_call agK_tt agK_ff agK_tf agK_ft agK_tup agK_i aop aun St.ev St.heap St.put thenQ blockQ scopeQ upd_apply S0 argSlot lowV V.cells V.isAgg V.fits V.part partOk plains St.ret retSV svOf svsOf retQ retP retAll retOne uL_length uL_get? uL_get St.elems retH ownIdx ownAt
attribute [local simp] RunD_none RunD_some RunD_nil RunE_any acD_v acD_call agD_tt agD_ff agD_tf agD_ft agD_tup entsOf svref SO.opds SO.writes SO.makes callEnt pureSV pureOf RV.isOwn
attribute [local simp] abin_add abin_sub abin_mul abin_quo abin_rem abin_eql abin_neq abin_lss abin_leq abin_gtr abin_geq
attribute [local simp] uL_snoc uL_set uL_take uL_drop uL_append uL_replicate uL_nil
attribute [local simp] acK_callG acD_callG St.giv gsSV gvSV retEnts ownEnts SO.still
attribute [local simp] S0G argSlotG givSV retQG retPG retAllG retOneG HObj.width V.scalar trimQ V.byte
attribute [local simp] zv V.fits fillOk fillV Z_eq rv Q_eq
end Go.Vw

