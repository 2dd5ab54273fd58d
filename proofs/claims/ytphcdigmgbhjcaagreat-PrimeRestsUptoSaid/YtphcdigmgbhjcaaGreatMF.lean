/- Fractions. -/
import Derived.Test.YtphcdigmgbhjcaaGreatME
import Derived.Test.YtphcdigmgbhjcaaGreatS3
import Derived.Test.YtphcdigmgbhjcaaGreatS4
import Derived.Lib.Bytealg
import Derived.Test.YtphcdigmgbhjcaaGreatMD
import Derived.Test.YtphcdigmgbhjcaaGreatS5
set_option linter.unusedVariables false
set_option linter.unusedSimpArgs false
namespace Go.Vw
open Go.Proofs

/-- A fraction's value: its upper number's sign and limbs, its lower number's limbs. -/
def rv (n : Bool) (l d : List Nat) : V := .agg [.b n, .sl none (uL l), .sl none (uL d)]
def qd (n : Nat) : List Nat := Nm.dig 18446744073709551616 n
/-- A fraction, plain. -/
def Q (q : Rat) : V := rv (zn q.num) (zl q.num) (qd q.den)
theorem Q_eq (q : Rat) : Q q = .agg [.b (zn q.num), .sl none (uL (zl q.num)), .sl none (uL (qd q.den))] := rfl

def rq (n : Bool) (l d : List Nat) : Rat := mkRat (zi n l) (Nm.val 18446744073709551616 d)
def IsQ (k : Nat) (v : V) (q : Rat) : Prop := ∃ n l d, v = rv n l d ∧ ZW k l ∧ ZW k d ∧ rq n l d = q

/-- A fraction's numbers have so many limbs at most. -/
structure QL (k : Nat) (q : Rat) : Prop where
  num : zlen q.num ≤ k
  den : zlen (q.den : Int) ≤ k
theorem QL.mono {k m : Nat} {q : Rat} (h : QL k q) (hk : k ≤ m) : QL m q := ⟨Nat.le_trans h.num hk, Nat.le_trans h.den hk⟩
theorem IsQ.mono {k m : Nat} {v : V} {q : Rat} (h : IsQ k v q) (hk : k ≤ m) : IsQ m v q := by
  obtain ⟨n, l, d, h1, h2, h3, h4⟩ := h
  exact ⟨n, l, d, h1, h2.mono hk, h3.mono hk, h4⟩
theorem qd_zl (n : Nat) : qd n = zl (n : Int) := by simp [qd, zl]
theorem isQ_Q {k : Nat} {q : Rat} (h : QL k q) : IsQ k (Q q) q := by
  refine ⟨zn q.num, zl q.num, qd q.den, rfl, ⟨zl_dl _, h.num⟩, ⟨Nm.dig_lt (by omega) _, by rw [qd_zl]; exact h.den⟩, ?_⟩
  rw [rq, zi_Z, qd, Nm.val_dig (by omega), Rat.mkRat_self]

theorem zlen_abs {x : Int} {y : Nat} (h : x.natAbs = y) : zlen (y : Int) = zlen x := by simp [zlen, zl, h]
theorem divInt_num {x y : Int} (hy : y ≠ 0) : (Rat.divInt x y).num = if y < 0 then -(x / (Int.gcd x y : Int)) else x / (Int.gcd x y : Int) := by
  rw [Rat.num_divInt, Int.gcd_comm y x]
  split
  · rw [Int.sign_eq_neg_one_of_neg (by omega), Int.neg_one_mul, Int.neg_ediv_of_dvd (Int.gcd_dvd_left _ _)]
  · rw [Int.sign_eq_one_of_pos (by omega), Int.one_mul]
theorem divInt_den {x y : Int} (hy : y ≠ 0) : (Rat.divInt x y).den = (y / (Int.gcd x y : Int)).natAbs := by
  rw [Rat.den_divInt, if_neg hy, Int.natAbs_ediv_of_dvd (Int.gcd_dvd_right _ _), Int.gcd_comm y x]
  rfl
theorem divInt_len {x y : Int} {k : Nat} (hx : zlen x ≤ k) (hy : zlen y ≤ k) : QL (k + 1) (Rat.divInt x y) := by
  by_cases h0 : y = 0
  · subst h0
    rw [Rat.divInt_zero]
    exact ⟨by rw [Rat.zero_num, zlen_zero]; omega, by have := zlen_one; rw [show ((0 : Rat).den : Int) = 1 by rfl]; omega⟩
  · refine ⟨?_, ?_⟩
    · rw [divInt_num h0]
      split
      · rw [zlen_neg]; have := zlen_ediv x (Int.gcd x y : Int); omega
      · have := zlen_ediv x (Int.gcd x y : Int); omega
    · rw [zlen_abs (divInt_den h0).symm]; have := zlen_ediv y (Int.gcd x y : Int); omega
theorem mkRat_len {x : Int} {d : Nat} {k : Nat} (hx : zlen x ≤ k) (hy : zlen (d : Int) ≤ k) : QL (k + 1) (mkRat x d) := by
  rw [← Rat.divInt_ofNat]; exact divInt_len hx hy
theorem IsQ.ql {k : Nat} {v : V} {q : Rat} (h : IsQ k v q) : QL (k + 1) q := by
  obtain ⟨n, l, d, rfl, h1, h2, rfl⟩ := h
  refine mkRat_len (isZ_zv (n := n) h1).zlen ?_
  have := (isZ_zv (n := false) h2).zlen
  rwa [show zi false d = (Nm.val 18446744073709551616 d : Int) by simp [zi]] at this

theorem gcd_ne {x y : Int} (h0 : y ≠ 0) : (Int.gcd x y : Int) ≠ 0 := by
  intro h
  have hg : Int.gcd x y = 0 := by omega
  exact h0 (Int.gcd_eq_zero_iff.1 hg).2
theorem zn_div {x y : Int} (h0 : y ≠ 0) : zn (y / (Int.gcd x y : Int)) = decide (y < 0) := by
  have g0 := gcd_ne (x := x) h0
  have gp : (0 : Int) < (Int.gcd x y : Int) := by omega
  rw [zn]
  congr 1
  have hm := Int.mul_ediv_cancel' (Int.gcd_dvd_right x y)
  apply propext
  constructor
  · intro h
    rw [← hm]
    exact Int.mul_neg_of_pos_of_neg gp h
  · intro h
    by_cases h' : y / (Int.gcd x y : Int) < 0
    · exact h'
    · have := Int.mul_nonneg (Int.le_of_lt gp) (Int.not_lt.1 h')
      omega

/-- What Make answers. -/
def makeR (x y : Int) : List RV := if y = 0 then [.pure (rv false [] []), .pure (.i .i64 3)] else [.pure (Q (Rat.divInt x y)), .pure (.i .i64 0)]

attribute [local simp] RunL_cons RunL_nil AOp_none AOp_some acK_v acK_call agK_tt agK_ff agK_tf agK_ft agK_tup agK_i aop aun St.ev St.heap St.put thenQ blockQ scopeQ upd_apply S0 argSlot lowV V.cells V.isAgg V.fits V.part partOk plains St.ret retSV svOf svsOf retQ retP retAll retOne uL_length uL_get? uL_get St.elems retH ownIdx ownAt
attribute [local simp] RunD_none RunD_some RunD_nil RunE_any acD_v acD_call agD_tt agD_ff agD_tf agD_ft agD_tup entsOf svref SO.opds SO.writes SO.makes callEnt pureSV pureOf RV.isOwn
attribute [local simp] abin_add abin_sub abin_mul abin_quo abin_rem abin_eql abin_neq abin_lss abin_leq abin_gtr abin_geq
attribute [local simp] uL_snoc uL_set uL_take uL_drop uL_append uL_replicate uL_nil
attribute [local simp] acK_callG acD_callG St.giv gsSV gvSV retEnts ownEnts SO.still
attribute [local simp] S0G argSlotG givSV retQG retPG retAllG retOneG HObj.width V.scalar trimQ V.byte
attribute [local simp] zv V.fits fillOk fillV Z_eq rv Q_eq
set_option maxHeartbeats 1000000 in
theorem zmake {k : Nat} {v w : V} {x y : Int} (hv : IsZ k v x) (hw : IsZ k w y) (hk : k ≤ 2 ^ 33) : Spec Tryz.prog f_rat_Make [v, w] (· = makeR x y) := by
  have sg := zsign hw (by omega)
  have gd := zgcd hv hw hk
  have q1 := hv.zlen
  have q2 := hw.zlen
  have gl := gcd_len q1 q2
  have ex1 := zexact hv (isZ_of gl) (by omega)
  have ex2 := zexact hw (isZ_of gl) (by omega)
  have dv1 : x % (Int.gcd x y : Int) = 0 := Int.emod_eq_zero_of_dvd (Int.gcd_dvd_left _ _)
  have dv2 : y % (Int.gcd x y : Int) = 0 := Int.emod_eq_zero_of_dvd (Int.gcd_dvd_right _ _)
  have ql := zlen_ediv x (Int.gcd x y : Int)
  obtain ⟨n1, l1, rfl, h1, rfl⟩ := hv
  obtain ⟨n2, l2, rfl, h2, rfl⟩ := hw
  obtain ⟨x, hx⟩ : ∃ x, x = zi n1 l1 := ⟨_, rfl⟩
  obtain ⟨y, hy⟩ : ∃ x, x = zi n2 l2 := ⟨_, rfl⟩
  rw [← hx, ← hy] at gd gl ex1 ex2 dv1 dv2 ql ⊢
  rw [← hy] at sg q2
  rw [← hx] at q1
  refine spec_at Tryz.func69 ok_rat_Make [] rfl (by simp) ?_
  unfold sc_rat_Make
  by_cases h0 : y = 0
  · rw [makeR, if_pos h0]
    rw [h0, Int.sign_zero] at sg
    refine WS_seq (WS_reg [] ?_); simp [uL_nil]
    refine WS_seq (WS_seq (WS_reg [] ?_)); simp [uL_nil]
    refine callK sg ?_; simp [uL_nil]
    refine WS_cond (t := true) (by simp [uL_nil]) (fun _ => ?_) (fun h => by cases h)
    refine WS_seq (WS_reg [] ?_); simp [uL_nil]
    refine WS_ret ?_; simp [uL_nil]
  · have hs : y.sign ≠ 0 := by rw [Ne, Int.sign_eq_zero_iff_zero]; exact h0
    have g0 := gcd_ne (x := x) h0
    rw [exactR, if_neg g0, if_pos dv1] at ex1
    rw [exactR, if_neg g0, if_pos dv2] at ex2
    have hn := divInt_num (x := x) h0
    have hd := divInt_den (x := x) h0
    have hsg := zn_div (x := x) h0
    have ng := zneg (isZ_of (x := x / (Int.gcd x y : Int)) (k := k) (by omega)) (by omega)
    rw [makeR, if_neg h0]
    have hz : qd (Rat.divInt x y).den = zl (y / (Int.gcd x y : Int)) := by rw [qd, hd]; rfl
    rw [Q_eq, hz]
    obtain ⟨p, hp⟩ : ∃ p, p = (Rat.divInt x y).num := ⟨_, rfl⟩
    rw [← hp] at hn ⊢
    obtain ⟨g, hg⟩ : ∃ g : Int, g = (Int.gcd x y : Int) := ⟨_, rfl⟩
    rw [← hg] at gd ex1 ex2 hn hsg ng ⊢
    by_cases hneg : y < 0
    · rw [if_pos hneg] at hn
      rw [← hn] at ng
      rw [decide_eq_true hneg] at hsg
      refine WS_seq (WS_reg [] ?_); simp [hs, hsg]
      refine WS_seq (WS_seq (WS_reg [] ?_)); simp [hs, hsg]
      refine callK sg ?_; simp [hs, hsg]
      refine WS_cond (t := false) (by simp [hs, hsg]) (fun h => by cases h) (fun _ => ?_)
      refine WS_skip ?_; simp [hs, hsg]
      refine WS_seq (WS_reg [] ?_); simp [hs, hsg]
      refine callK gd ?_; simp [hs, hsg]
      refine WS_seq (WS_reg [] ?_); simp [hs, hsg]
      refine callK ex1 ?_; simp [hs, hsg]
      refine WS_seq (WS_reg [] ?_); simp [hs, hsg]
      refine callK ex2 ?_; simp [hs, hsg]
      refine WS_seq (WS_seq (WS_reg [] ?_)); simp [hs, hsg]
      refine WS_cond (t := true) (by simp [hs, hsg]) (fun _ => ?_) (fun h => by cases h)
      refine WS_reg [] ?_; simp [hs, hsg]
      refine callK ng ?_; simp [hs, hsg]
      refine WS_seq (WS_reg [] ?_); simp [hs, hsg]
      refine WS_ret ?_; simp [hs, hsg]
    · rw [if_neg hneg] at hn
      rw [decide_eq_false hneg] at hsg
      refine WS_seq (WS_reg [] ?_); simp [hs, hsg, hn]
      refine WS_seq (WS_seq (WS_reg [] ?_)); simp [hs, hsg, hn]
      refine callK sg ?_; simp [hs, hsg, hn]
      refine WS_cond (t := false) (by simp [hs, hsg, hn]) (fun h => by cases h) (fun _ => ?_)
      refine WS_skip ?_; simp [hs, hsg, hn]
      refine WS_seq (WS_reg [] ?_); simp [hs, hsg, hn]
      refine callK gd ?_; simp [hs, hsg, hn]
      refine WS_seq (WS_reg [] ?_); simp [hs, hsg, hn]
      refine callK ex1 ?_; simp [hs, hsg, hn]
      refine WS_seq (WS_reg [] ?_); simp [hs, hsg, hn]
      refine callK ex2 ?_; simp [hs, hsg, hn]
      refine WS_seq (WS_seq (WS_reg [] ?_)); simp [hs, hsg, hn]
      refine WS_cond (t := false) (by simp [hs, hsg, hn]) (fun h => by cases h) (fun _ => ?_)
      refine WS_skip ?_; simp [hs, hsg, hn]
      refine WS_seq (WS_reg [] ?_); simp [hs, hsg, hn]
      refine WS_ret ?_; simp [hs, hsg, hn]

set_option maxHeartbeats 1000000 in
theorem rmake {k : Nat} {v w : V} {x y : Int} (hv : IsZ k v x) (hw : IsZ k w y) (hk : k ≤ 2 ^ 33) : Spec Tryz.prog f_ref03_Make [v, w] (· = makeR x y) := by
  have sg := rsign hw (by omega)
  have gd := rgcd hv hw hk
  have q1 := hv.zlen
  have q2 := hw.zlen
  have gl := gcd_len q1 q2
  have ex1 := fun h => rdivz hv (isZ_of gl) (by omega) h
  have ex2 := fun h => rdivz hw (isZ_of gl) (by omega) h
  have ql := zlen_ediv x (Int.gcd x y : Int)
  obtain ⟨n1, l1, rfl, h1, rfl⟩ := hv
  obtain ⟨n2, l2, rfl, h2, rfl⟩ := hw
  obtain ⟨x, hx⟩ : ∃ x, x = zi n1 l1 := ⟨_, rfl⟩
  obtain ⟨y, hy⟩ : ∃ x, x = zi n2 l2 := ⟨_, rfl⟩
  rw [← hx, ← hy] at gd gl ex1 ex2 ql ⊢
  rw [← hy] at sg q2
  rw [← hx] at q1
  refine spec_at Tryz.func74 ok_ref03_Make [] rfl (by simp) ?_
  unfold sc_ref03_Make
  by_cases h0 : y = 0
  · rw [makeR, if_pos h0]
    rw [h0, Int.sign_zero] at sg
    refine WS_seq (WS_reg [] ?_); simp [uL_nil]
    refine WS_seq (WS_seq (WS_reg [] ?_)); simp [uL_nil]
    refine callK sg ?_; simp [uL_nil]
    refine WS_cond (t := true) (by simp [uL_nil]) (fun _ => ?_) (fun h => by cases h)
    refine WS_seq (WS_reg [] ?_); simp [uL_nil]
    refine WS_ret ?_; simp [uL_nil]
  · have hs : y.sign ≠ 0 := by rw [Ne, Int.sign_eq_zero_iff_zero]; exact h0
    have g0 := gcd_ne (x := x) h0
    have ex1 := ex1 g0
    have ex2 := ex2 g0
    have hn := divInt_num (x := x) h0
    have hd := divInt_den (x := x) h0
    have hsg := zn_div (x := x) h0
    have ng := rneg (isZ_of (x := x / (Int.gcd x y : Int)) (k := k) (by omega)) (by omega)
    rw [makeR, if_neg h0]
    have hz : qd (Rat.divInt x y).den = zl (y / (Int.gcd x y : Int)) := by rw [qd, hd]; rfl
    rw [Q_eq, hz]
    obtain ⟨p, hp⟩ : ∃ p, p = (Rat.divInt x y).num := ⟨_, rfl⟩
    rw [← hp] at hn ⊢
    obtain ⟨g, hg⟩ : ∃ g : Int, g = (Int.gcd x y : Int) := ⟨_, rfl⟩
    rw [← hg] at gd ex1 ex2 hn hsg ng ⊢
    by_cases hneg : y < 0
    · rw [if_pos hneg] at hn
      rw [← hn] at ng
      rw [decide_eq_true hneg] at hsg
      refine WS_seq (WS_reg [] ?_); simp [hs, hsg]
      refine WS_seq (WS_seq (WS_reg [] ?_)); simp [hs, hsg]
      refine callK sg ?_; simp [hs, hsg]
      refine WS_cond (t := false) (by simp [hs, hsg]) (fun h => by cases h) (fun _ => ?_)
      refine WS_skip ?_; simp [hs, hsg]
      refine WS_seq (WS_reg [] ?_); simp [hs, hsg]
      refine callK gd ?_; simp [hs, hsg]
      refine WS_seq (WS_reg [] ?_); simp [hs, hsg]
      refine callK ex1 ?_; simp [hs, hsg]
      refine WS_seq (WS_reg [] ?_); simp [hs, hsg]
      refine callK ex2 ?_; simp [hs, hsg]
      refine WS_seq (WS_seq (WS_reg [] ?_)); simp [hs, hsg]
      refine WS_cond (t := true) (by simp [hs, hsg]) (fun _ => ?_) (fun h => by cases h)
      refine WS_reg [] ?_; simp [hs, hsg]
      refine callK ng ?_; simp [hs, hsg]
      refine WS_seq (WS_reg [] ?_); simp [hs, hsg]
      refine WS_ret ?_; simp [hs, hsg]
    · rw [if_neg hneg] at hn
      rw [decide_eq_false hneg] at hsg
      refine WS_seq (WS_reg [] ?_); simp [hs, hsg, hn]
      refine WS_seq (WS_seq (WS_reg [] ?_)); simp [hs, hsg, hn]
      refine callK sg ?_; simp [hs, hsg, hn]
      refine WS_cond (t := false) (by simp [hs, hsg, hn]) (fun h => by cases h) (fun _ => ?_)
      refine WS_skip ?_; simp [hs, hsg, hn]
      refine WS_seq (WS_reg [] ?_); simp [hs, hsg, hn]
      refine callK gd ?_; simp [hs, hsg, hn]
      refine WS_seq (WS_reg [] ?_); simp [hs, hsg, hn]
      refine callK ex1 ?_; simp [hs, hsg, hn]
      refine WS_seq (WS_reg [] ?_); simp [hs, hsg, hn]
      refine callK ex2 ?_; simp [hs, hsg, hn]
      refine WS_seq (WS_seq (WS_reg [] ?_)); simp [hs, hsg, hn]
      refine WS_cond (t := false) (by simp [hs, hsg, hn]) (fun h => by cases h) (fun _ => ?_)
      refine WS_skip ?_; simp [hs, hsg, hn]
      refine WS_seq (WS_reg [] ?_); simp [hs, hsg, hn]
      refine WS_ret ?_; simp [hs, hsg, hn]

end Go.Vw
set_option linter.unusedVariables false
set_option linter.unusedSimpArgs false
namespace Go.Vw
open Go.Proofs

theorem qd_one : qd 1 = [1] := by rw [qd, Nm.dig_pos (by omega) (by omega), Nat.mod_eq_of_lt (by omega), Nat.div_eq_of_lt (by omega), Nm.dig_zero]
theorem qd_dl (n : Nat) : Nm.Dl 18446744073709551616 (qd n) := Nm.dig_lt (by omega) _
theorem qd_val (n : Nat) : Nm.val 18446744073709551616 (qd n) = n := Nm.val_dig (by omega) _
theorem qd_len (n : Nat) : (qd n).length = zlen (n : Int) := by rw [qd_zl]; rfl
theorem Q_int (n : Int) : Q (n : Rat) = rv (zn n) (zl n) [1] := by
  show rv (zn n) (zl n) (qd 1) = _
  rw [qd_one]
def wholeR (q : Rat) : List RV := if q.den = 1 then [.pure (Z q.num), .pure (.b true)] else [.pure (Z 0), .pure (.b false)]
attribute [local simp] RunL_cons RunL_nil AOp_none AOp_some acK_v acK_call agK_tt agK_ff agK_tf agK_ft agK_tup agK_i aop aun St.ev St.heap St.put thenQ blockQ scopeQ upd_apply S0 argSlot lowV V.cells V.isAgg V.fits V.part partOk plains St.ret retSV svOf svsOf retQ retP retAll retOne uL_length uL_get? uL_get St.elems retH ownIdx ownAt
attribute [local simp] RunD_none RunD_some RunD_nil RunE_any acD_v acD_call agD_tt agD_ff agD_tf agD_ft agD_tup entsOf svref SO.opds SO.writes SO.makes callEnt pureSV pureOf RV.isOwn
attribute [local simp] abin_add abin_sub abin_mul abin_quo abin_rem abin_eql abin_neq abin_lss abin_leq abin_gtr abin_geq
attribute [local simp] uL_snoc uL_set uL_take uL_drop uL_append uL_replicate uL_nil
attribute [local simp] acK_callG acD_callG St.giv gsSV gvSV retEnts ownEnts SO.still
attribute [local simp] S0G argSlotG givSV retQG retPG retAllG retOneG HObj.width V.scalar trimQ V.byte
attribute [local simp] zv V.fits fillOk fillV Z_eq rv Q_eq
theorem qden {k : Nat} {n : Bool} {l d : List Nat} (h : ZW k d) (hk : k ≤ 2 ^ 40) : Spec Tryz.prog f_rat_den [rv n l d] (· = [.pure (Z (Nm.val 18446744073709551616 d : Int))]) := by
  have nm := znorm (isZ_zv (n := false) h) hk
  rw [show zi false d = (Nm.val 18446744073709551616 d : Int) by simp [zi]] at nm
  refine spec_at Tryz.func86 ok_rat_den [] rfl (by simp) ?_
  unfold sc_rat_den
  refine WS_seq (WS_reg [] ?_); simp
  refine WS_seq (WS_reg [] ?_); simp
  refine callK nm ?_; simp
  refine WS_ret ?_; simp
theorem qof (n : Int) (h1 : -9223372036854775808 ≤ n) (h2 : n ≤ 9223372036854775807) : Spec Tryz.prog f_rat_Of [.i .i64 n] (· = [.pure (Q (n : Rat))]) := by
  have zo := zof n h1 h2
  rw [Q_int]
  have e1 : uL [1] = [V.i .u64 1] := rfl
  refine spec_at Tryz.func88 ok_rat_Of [] rfl (by simp) ?_
  unfold sc_rat_Of
  refine WS_seq (WS_reg [] ?_); simp [e1]
  refine WS_seq (WS_reg [] ?_); simp [e1]
  refine callK zo ?_; simp [e1]
  refine WS_ret ?_; simp [e1]
theorem qnorm {k : Nat} {v : V} {q : Rat} (hv : IsQ k v q) (hk : k ≤ 2 ^ 33) : Spec Tryz.prog f_rat_Norm [v] (· = [.pure (Q q)]) := by
  obtain ⟨n, l, d, rfl, h1, h2, rfl⟩ := hv
  have dn := qden (n := n) (l := l) h2 (by omega)
  have iz := (isZ_zv (n := false) h2).zlen
  rw [show zi false d = (Nm.val 18446744073709551616 d : Int) by simp [zi]] at iz
  have mk := zmake (isZ_zv (n := n) h1) (isZ_of iz) hk
  have o0 := qof 0 (by omega) (by omega)
  rw [Rat.intCast_zero] at o0
  have hq : rq n l d = mkRat (zi n l) (Nm.val 18446744073709551616 d) := rfl
  obtain ⟨D, hD⟩ : ∃ D, D = Nm.val 18446744073709551616 d := ⟨_, rfl⟩
  rw [← hD] at dn mk hq
  obtain ⟨r, hr⟩ : ∃ r, r = rq n l d := ⟨_, rfl⟩
  rw [← hr] at hq ⊢
  refine spec_at Tryz.func33 ok_rat_Norm [] rfl (by simp) ?_
  unfold sc_rat_Norm
  by_cases h0 : D = 0
  · subst h0
    rw [Rat.mkRat_zero] at hq
    rw [makeR, if_pos (by rfl)] at mk
    subst hq
    refine WS_seq (WS_reg [] ?_); simp
    refine WS_seq (WS_regD [] ?_); simp
    refine callD dn rfl ?_; simp
    refine callD mk rfl ?_; simp
    refine ⟨rfl, ?_⟩
    refine WS_seq (WS_seq (WS_reg [] ?_)); simp
    refine WS_cond (t := true) (by simp) (fun _ => ?_) (fun h => by cases h)
    refine WS_seq (WS_reg [] ?_); simp
    refine callK o0 ?_; simp
    refine WS_ret ?_; simp
  · rw [makeR, if_neg (by omega), Rat.divInt_ofNat, ← hq] at mk
    refine WS_seq (WS_reg [] ?_); simp
    refine WS_seq (WS_regD [] ?_); simp
    refine callD dn rfl ?_; simp
    refine callD mk rfl ?_; simp
    refine ⟨rfl, ?_⟩
    refine WS_seq (WS_seq (WS_reg [] ?_)); simp
    refine WS_cond (t := false) (by simp) (fun h => by cases h) (fun _ => ?_)
    refine WS_skip ?_; simp
    refine WS_seq (WS_reg [] ?_); simp
    refine WS_ret ?_; simp
theorem cmpN_one {n : Nat} (h : n ≠ 0) : (Nm.cmpN n 1 = 0) ↔ n = 1 := by
  unfold Nm.cmpN
  constructor
  · intro h; split at h
    · omega
    · split at h <;> omega
  · rintro rfl; simp
theorem qwhole {k : Nat} {v : V} {q : Rat} (hv : IsQ k v q) (hk : k ≤ 2 ^ 33) : Spec Tryz.prog f_rat_Whole [v] (· = wholeR q) := by
  have nm := qnorm hv hk
  have ql := hv.ql
  have cm := ncmp_spec (qd q.den) [1] (qd_dl _) (by intro x hx; simp at hx; omega) (by rw [qd_len]; have := ql.den; omega) (by simp)
  rw [qd_val, show Nm.val 18446744073709551616 [1] = 1 by simp [Nm.val]] at cm
  have c1 := cmpN_one q.den_nz
  obtain ⟨n, l, d, rfl, h1, h2, _⟩ := hv
  have e1 : U [1] = .sl none [V.i .u64 1] := rfl
  rw [e1] at cm
  refine spec_at Tryz.func31 ok_rat_Whole [] rfl (by simp) ?_
  unfold sc_rat_Whole
  by_cases h : q.den = 1
  · rw [wholeR, if_pos h]
    have c2 := c1.2 h
    rw [c2] at cm
    refine WS_seq (WS_reg [] ?_); simp [U]
    refine WS_seq (WS_reg [] ?_); simp [U]
    refine callK nm ?_; simp [U]
    refine WS_seq (WS_seq (WS_reg [] ?_)); simp [U]
    refine callK cm ?_; simp [U]
    refine WS_cond (t := false) (by simp [U]) (fun h => by cases h) (fun _ => ?_)
    refine WS_skip ?_; simp [U]
    refine WS_seq (WS_reg [] ?_); simp [U]
    refine WS_ret ?_; simp [U]
  · rw [wholeR, if_neg h]
    have c2 : ¬ Nm.cmpN q.den 1 = 0 := fun e => h (c1.1 e)
    refine WS_seq (WS_reg [] ?_); simp [U, c2, Z_zero]
    refine WS_seq (WS_reg [] ?_); simp [U, c2, Z_zero]
    refine callK nm ?_; simp [U, c2, Z_zero]
    refine WS_seq (WS_seq (WS_reg [] ?_)); simp [U, c2, Z_zero]
    refine callK cm ?_; simp [U, c2, Z_zero]
    refine WS_cond (t := true) (by simp [U, c2, Z_zero]) (fun _ => ?_) (fun h => by cases h)
    refine WS_seq (WS_reg [] ?_); simp [U, c2, Z_zero]
    refine WS_ret ?_; simp [U, c2, Z_zero]

end Go.Vw
set_option linter.unusedVariables false
set_option linter.unusedSimpArgs false
namespace Go.Vw
open Go.Proofs

attribute [local simp] RunL_cons RunL_nil AOp_none AOp_some acK_v acK_call agK_tt agK_ff agK_tf agK_ft agK_tup agK_i aop aun St.ev St.heap St.put thenQ blockQ scopeQ upd_apply S0 argSlot lowV V.cells V.isAgg V.fits V.part partOk plains St.ret retSV svOf svsOf retQ retP retAll retOne uL_length uL_get? uL_get St.elems retH ownIdx ownAt
attribute [local simp] RunD_none RunD_some RunD_nil RunE_any acD_v acD_call agD_tt agD_ff agD_tf agD_ft agD_tup entsOf svref SO.opds SO.writes SO.makes callEnt pureSV pureOf RV.isOwn
attribute [local simp] abin_add abin_sub abin_mul abin_quo abin_rem abin_eql abin_neq abin_lss abin_leq abin_gtr abin_geq
attribute [local simp] uL_snoc uL_set uL_take uL_drop uL_append uL_replicate uL_nil
attribute [local simp] acK_callG acD_callG St.giv gsSV gvSV retEnts ownEnts SO.still
attribute [local simp] S0G argSlotG givSV retQG retPG retAllG retOneG HObj.width V.scalar trimQ V.byte
attribute [local simp] zv V.fits fillOk fillV Z_eq rv Q_eq
/-- Two plain fractions are the same. -/
theorem qsame (n : Bool) (l d : List Nat) (hl : l.length ≤ 2 ^ 40) (hd : d.length ≤ 2 ^ 40) : Spec Tryz.prog f_ref03_Same [rv n l d, rv n l d] (· = [.pure (.b true)]) := by
  have s2 := rsame_spec l hl
  have s3 := rsame_spec d hd
  have sm : Spec Tryz.prog f_ref02_Same [zv n l, zv n l] (· = [.pure (.b true)]) := by
    refine spec_at Tryz.func47 ok_ref02_Same [] rfl (by simp) ?_
    unfold sc_ref02_Same
    refine WS_seq (WS_reg [] ?_); simp [U]
    refine WS_seq (WS_reg [] ?_); simp [U]
    refine callK s2 ?_; simp [U]
    refine WS_ret ?_; simp [U]
  refine spec_at Tryz.func15 ok_ref03_Same [] rfl (by simp) ?_
  unfold sc_ref03_Same
  refine WS_seq (WS_reg [] ?_); simp [U]
  refine WS_seq (WS_reg [] ?_); simp [U]
  refine callK sm ?_; simp [U]
  refine callK s3 ?_; simp [U]
  refine WS_ret ?_; simp [U]
end Go.Vw
set_option linter.unusedVariables false
set_option linter.unusedSimpArgs false
namespace Go.Vw
open Go.Proofs

attribute [local simp] RunL_cons RunL_nil AOp_none AOp_some acK_v acK_call agK_tt agK_ff agK_tf agK_ft agK_tup agK_i aop aun St.ev St.heap St.put thenQ blockQ scopeQ upd_apply S0 argSlot lowV V.cells V.isAgg V.fits V.part partOk plains St.ret retSV svOf svsOf retQ retP retAll retOne uL_length uL_get? uL_get St.elems retH ownIdx ownAt
attribute [local simp] RunD_none RunD_some RunD_nil RunE_any acD_v acD_call agD_tt agD_ff agD_tf agD_ft agD_tup entsOf svref SO.opds SO.writes SO.makes callEnt pureSV pureOf RV.isOwn
attribute [local simp] abin_add abin_sub abin_mul abin_quo abin_rem abin_eql abin_neq abin_lss abin_leq abin_gtr abin_geq
attribute [local simp] uL_snoc uL_set uL_take uL_drop uL_append uL_replicate uL_nil
attribute [local simp] acK_callG acD_callG St.giv gsSV gvSV retEnts ownEnts SO.still
attribute [local simp] S0G argSlotG givSV retQG retPG retAllG retOneG HObj.width V.scalar trimQ V.byte
attribute [local simp] zv V.fits fillOk fillV Z_eq rv Q_eq
end Go.Vw
set_option linter.unusedVariables false
set_option linter.unusedSimpArgs false
namespace Go.Vw
open Go.Proofs

/-- The digits of a fraction. -/
def qT (q : Rat) : List UInt8 := if q.den = 1 then zT q.num else zT q.num ++ 47 :: Nm.decT q.den
theorem bmk_cat (a b : List UInt8) (h : a.length + b.length ≤ 2 ^ 60) : abin .add (.s ⟨a.toArray⟩) (.s ⟨b.toArray⟩) = some (True, .s ⟨(a ++ b).toArray⟩) := by
  rw [abin_cat, bmk_append]
  have hmx : (((⟨a.toArray⟩ : ByteArray).size + (⟨b.toArray⟩ : ByteArray).size : Nat) : Int) ≤ IntKind.i64.max := by
    rw [bmk_size, bmk_size]
    simp [IntKind.max, IntKind.signed, IntKind.bits]; omega
  simp only [hmx]

theorem zT_len {x : Int} {k : Nat} (h : zlen x ≤ k) : (zT x).length ≤ 20 * k + 2 := by
  have := Nm.decT_length (lt_zlen' h)
  unfold zT
  split
  · simp; omega
  · omega
attribute [local simp] RunL_cons RunL_nil AOp_none AOp_some acK_v acK_call agK_tt agK_ff agK_tf agK_ft agK_tup agK_i aop aun St.ev St.heap St.put thenQ blockQ scopeQ upd_apply S0 argSlot lowV V.cells V.isAgg V.fits V.part partOk plains St.ret retSV svOf svsOf retQ retP retAll retOne uL_length uL_get? uL_get St.elems retH ownIdx ownAt
attribute [local simp] RunD_none RunD_some RunD_nil RunE_any acD_v acD_call agD_tt agD_ff agD_tf agD_ft agD_tup entsOf svref SO.opds SO.writes SO.makes callEnt pureSV pureOf RV.isOwn
attribute [local simp] abin_add abin_sub abin_mul abin_quo abin_rem abin_eql abin_neq abin_lss abin_leq abin_gtr abin_geq
attribute [local simp] uL_snoc uL_set uL_take uL_drop uL_append uL_replicate uL_nil
attribute [local simp] acK_callG acD_callG St.giv gsSV gvSV retEnts ownEnts SO.still
attribute [local simp] S0G argSlotG givSV retQG retPG retAllG retOneG HObj.width V.scalar trimQ V.byte
attribute [local simp] zv V.fits fillOk fillV Z_eq rv Q_eq
theorem qtext {k : Nat} {v : V} {q : Rat} (hv : IsQ k v q) (hk : k ≤ 2 ^ 30) : Spec Tryz.prog f_rat_Text [v] (· = [.pure (tx (qT q))]) := by
  have wh := qwhole hv (by omega)
  have nm := qnorm hv (by omega)
  have ql := hv.ql
  have t1 := ztext (isZ_of ql.num) (by omega)
  have t2 := ntext_spec (qd q.den) (qd_dl _) (by rw [qd_len]; have := ql.den; omega)
  rw [qd_val] at t2
  have l1 := zT_len ql.num
  have l2 := Nm.decT_length (lt_zlen' ql.den)
  rw [Int.natAbs_natCast] at l2
  obtain ⟨n, l, d, rfl, h1, h2, _⟩ := hv
  refine spec_at Tryz.func21 ok_rat_Text [] rfl (by simp) ?_
  unfold sc_rat_Text
  by_cases h : q.den = 1
  · rw [wholeR, if_pos h] at wh
    rw [qT, if_pos h]
    refine WS_seq (WS_reg [] ?_); simp [tx]
    refine WS_seq (WS_seq (WS_reg [] ?_)); simp [tx]
    refine callK wh ?_; simp [tx]
    refine WS_seq (WS_reg [] ?_); simp [tx]
    refine WS_cond (t := true) (by simp [tx]) (fun _ => ?_) (fun h => by cases h)
    refine WS_seq (WS_reg [] ?_); simp [tx]
    refine callK t1 ?_; simp [tx]
    refine WS_ret ?_; simp [tx]
  · rw [wholeR, if_neg h] at wh
    rw [qT, if_neg h]
    obtain ⟨A, hA⟩ : ∃ A, A = zT q.num := ⟨_, rfl⟩
    obtain ⟨B, hB⟩ : ∃ A, A = Nm.decT q.den := ⟨_, rfl⟩
    rw [← hA] at t1 l1 ⊢
    rw [← hB] at t2 l2 ⊢
    have c1 := bmk_cat A [47] (by simp; omega)
    have c2 := bmk_cat (A ++ [47]) B (by simp; omega)
    have e : A ++ 47 :: B = A ++ [47] ++ B := by simp
    rw [e]
    obtain ⟨C, hC⟩ : ∃ C, C = A ++ [47] := ⟨_, rfl⟩
    rw [← hC] at c1 c2 ⊢
    refine WS_seq (WS_reg [] ?_); simp [tx, U, c1, c2]
    refine WS_seq (WS_seq (WS_reg [] ?_)); simp [tx, U, c1, c2]
    refine callK wh ?_; simp [tx, U, c1, c2]
    refine WS_seq (WS_reg [] ?_); simp [tx, U, c1, c2]
    refine WS_cond (t := false) (by simp [tx, U, c1, c2]) (fun h => by cases h) (fun _ => ?_)
    refine WS_skip ?_; simp [tx, U, c1, c2]
    refine WS_seq (WS_reg [] ?_); simp [tx, U, c1, c2]
    refine callK nm ?_; simp [tx, U, c1, c2]
    refine WS_seq (WS_regD [] ?_); simp [tx, U, c1, c2]
    refine callD t1 rfl ?_; simp [tx, U, c1, c2]
    refine callD t2 rfl ?_; simp [tx, U, c1, c2]
    refine ⟨rfl, ?_⟩
    refine WS_ret ?_; simp [tx, U, c1, c2]

end Go.Vw
set_option linter.unusedVariables false
set_option linter.unusedSimpArgs false
namespace Go.Vw
open Go.Proofs

attribute [local simp] RunL_cons RunL_nil AOp_none AOp_some acK_v acK_call agK_tt agK_ff agK_tf agK_ft agK_tup agK_i aop aun St.ev St.heap St.put thenQ blockQ scopeQ upd_apply S0 argSlot lowV V.cells V.isAgg V.fits V.part partOk plains St.ret retSV svOf svsOf retQ retP retAll retOne uL_length uL_get? uL_get St.elems retH ownIdx ownAt
attribute [local simp] RunD_none RunD_some RunD_nil RunE_any acD_v acD_call agD_tt agD_ff agD_tf agD_ft agD_tup entsOf svref SO.opds SO.writes SO.makes callEnt pureSV pureOf RV.isOwn
attribute [local simp] abin_add abin_sub abin_mul abin_quo abin_rem abin_eql abin_neq abin_lss abin_leq abin_gtr abin_geq
attribute [local simp] uL_snoc uL_set uL_take uL_drop uL_append uL_replicate uL_nil
attribute [local simp] acK_callG acD_callG St.giv gsSV gvSV retEnts ownEnts SO.still
attribute [local simp] S0G argSlotG givSV retQG retPG retAllG retOneG HObj.width V.scalar trimQ V.byte
attribute [local simp] zv V.fits fillOk fillV Z_eq rv Q_eq
end Go.Vw
set_option linter.unusedVariables false
set_option linter.unusedSimpArgs false
namespace Go.Vw
open Go.Proofs

attribute [local simp] RunL_cons RunL_nil AOp_none AOp_some acK_v acK_call agK_tt agK_ff agK_tf agK_ft agK_tup agK_i aop aun St.ev St.heap St.put thenQ blockQ scopeQ upd_apply S0 argSlot lowV V.cells V.isAgg V.fits V.part partOk plains St.ret retSV svOf svsOf retQ retP retAll retOne uL_length uL_get? uL_get St.elems retH ownIdx ownAt
attribute [local simp] RunD_none RunD_some RunD_nil RunE_any acD_v acD_call agD_tt agD_ff agD_tf agD_ft agD_tup entsOf svref SO.opds SO.writes SO.makes callEnt pureSV pureOf RV.isOwn
attribute [local simp] abin_add abin_sub abin_mul abin_quo abin_rem abin_eql abin_neq abin_lss abin_leq abin_gtr abin_geq
attribute [local simp] uL_snoc uL_set uL_take uL_drop uL_append uL_replicate uL_nil
attribute [local simp] acK_callG acD_callG St.giv gsSV gvSV retEnts ownEnts SO.still
attribute [local simp] S0G argSlotG givSV retQG retPG retAllG retOneG HObj.width V.scalar trimQ V.byte
attribute [local simp] zv V.fits fillOk fillV Z_eq rv Q_eq
end Go.Vw
set_option linter.unusedVariables false
set_option linter.unusedSimpArgs false
namespace Go.Vw
open Go.Proofs

attribute [local simp] RunL_cons RunL_nil AOp_none AOp_some acK_v acK_call agK_tt agK_ff agK_tf agK_ft agK_tup agK_i aop aun St.ev St.heap St.put thenQ blockQ scopeQ upd_apply S0 argSlot lowV V.cells V.isAgg V.fits V.part partOk plains St.ret retSV svOf svsOf retQ retP retAll retOne uL_length uL_get? uL_get St.elems retH ownIdx ownAt
attribute [local simp] RunD_none RunD_some RunD_nil RunE_any acD_v acD_call agD_tt agD_ff agD_tf agD_ft agD_tup entsOf svref SO.opds SO.writes SO.makes callEnt pureSV pureOf RV.isOwn
attribute [local simp] abin_add abin_sub abin_mul abin_quo abin_rem abin_eql abin_neq abin_lss abin_leq abin_gtr abin_geq
attribute [local simp] uL_snoc uL_set uL_take uL_drop uL_append uL_replicate uL_nil
attribute [local simp] acK_callG acD_callG St.giv gsSV gvSV retEnts ownEnts SO.still
attribute [local simp] S0G argSlotG givSV retQG retPG retAllG retOneG HObj.width V.scalar trimQ V.byte
attribute [local simp] zv V.fits fillOk fillV Z_eq rv Q_eq
end Go.Vw
set_option linter.unusedVariables false
set_option linter.unusedSimpArgs false
namespace Go.Vw
open Go.Proofs

attribute [local simp] RunL_cons RunL_nil AOp_none AOp_some acK_v acK_call agK_tt agK_ff agK_tf agK_ft agK_tup agK_i aop aun St.ev St.heap St.put thenQ blockQ scopeQ upd_apply S0 argSlot lowV V.cells V.isAgg V.fits V.part partOk plains St.ret retSV svOf svsOf retQ retP retAll retOne uL_length uL_get? uL_get St.elems retH ownIdx ownAt
attribute [local simp] RunD_none RunD_some RunD_nil RunE_any acD_v acD_call agD_tt agD_ff agD_tf agD_ft agD_tup entsOf svref SO.opds SO.writes SO.makes callEnt pureSV pureOf RV.isOwn
attribute [local simp] abin_add abin_sub abin_mul abin_quo abin_rem abin_eql abin_neq abin_lss abin_leq abin_gtr abin_geq
attribute [local simp] uL_snoc uL_set uL_take uL_drop uL_append uL_replicate uL_nil
attribute [local simp] acK_callG acD_callG St.giv gsSV gvSV retEnts ownEnts SO.still
attribute [local simp] S0G argSlotG givSV retQG retPG retAllG retOneG HObj.width V.scalar trimQ V.byte
attribute [local simp] zv V.fits fillOk fillV Z_eq rv Q_eq
end Go.Vw
set_option linter.unusedVariables false
set_option linter.unusedSimpArgs false
namespace Go.Vw
open Go.Proofs

attribute [local simp] RunL_cons RunL_nil AOp_none AOp_some acK_v acK_call agK_tt agK_ff agK_tf agK_ft agK_tup agK_i aop aun St.ev St.heap St.put thenQ blockQ scopeQ upd_apply S0 argSlot lowV V.cells V.isAgg V.fits V.part partOk plains St.ret retSV svOf svsOf retQ retP retAll retOne uL_length uL_get? uL_get St.elems retH ownIdx ownAt
attribute [local simp] RunD_none RunD_some RunD_nil RunE_any acD_v acD_call agD_tt agD_ff agD_tf agD_ft agD_tup entsOf svref SO.opds SO.writes SO.makes callEnt pureSV pureOf RV.isOwn
attribute [local simp] abin_add abin_sub abin_mul abin_quo abin_rem abin_eql abin_neq abin_lss abin_leq abin_gtr abin_geq
attribute [local simp] uL_snoc uL_set uL_take uL_drop uL_append uL_replicate uL_nil
attribute [local simp] acK_callG acD_callG St.giv gsSV gvSV retEnts ownEnts SO.still
attribute [local simp] S0G argSlotG givSV retQG retPG retAllG retOneG HObj.width V.scalar trimQ V.byte
attribute [local simp] zv V.fits fillOk fillV Z_eq rv Q_eq
end Go.Vw
set_option linter.unusedVariables false
set_option linter.unusedSimpArgs false
namespace Go.Vw
open Go.Proofs

attribute [local simp] RunL_cons RunL_nil AOp_none AOp_some acK_v acK_call agK_tt agK_ff agK_tf agK_ft agK_tup agK_i aop aun St.ev St.heap St.put thenQ blockQ scopeQ upd_apply S0 argSlot lowV V.cells V.isAgg V.fits V.part partOk plains St.ret retSV svOf svsOf retQ retP retAll retOne uL_length uL_get? uL_get St.elems retH ownIdx ownAt
attribute [local simp] RunD_none RunD_some RunD_nil RunE_any acD_v acD_call agD_tt agD_ff agD_tf agD_ft agD_tup entsOf svref SO.opds SO.writes SO.makes callEnt pureSV pureOf RV.isOwn
attribute [local simp] abin_add abin_sub abin_mul abin_quo abin_rem abin_eql abin_neq abin_lss abin_leq abin_gtr abin_geq
attribute [local simp] uL_snoc uL_set uL_take uL_drop uL_append uL_replicate uL_nil
attribute [local simp] acK_callG acD_callG St.giv gsSV gvSV retEnts ownEnts SO.still
attribute [local simp] S0G argSlotG givSV retQG retPG retAllG retOneG HObj.width V.scalar trimQ V.byte
attribute [local simp] zv V.fits fillOk fillV Z_eq rv Q_eq
end Go.Vw

