/- Primes. -/
import Derived.Test.YtphcdigmgbhjcaaGreatMF
import Derived.Test.YtphcdigmgbhjcaaGreatS4
import Derived.Test.YtphcdigmgbhjcaaGreatME
import Derived.Test.YtphcdigmgbhjcaaGreatS5
set_option linter.unusedVariables false
set_option linter.unusedSimpArgs false
namespace Go.Vw
open Go.Proofs

/-- Is a number a small prime? -/
def isP (n : Int) : Bool := decide (2 ≤ n) && decide (n ≤ 65521) && decide (∀ d : Nat, d < 256 → 2 ≤ d → d * d ≤ n.toNat → n.toNat % d ≠ 0)
/-- No divisor below d, as far as they are looked for. -/
def noD (N d : Nat) : Prop := ∀ k : Nat, k < d → 2 ≤ k → k * k ≤ N → N % k ≠ 0

theorem isP_no {n : Int} (h : ¬ (2 ≤ n ∧ n ≤ 65521)) : isP n = false := by
  simp only [isP]
  by_cases h1 : 2 ≤ n
  · have h2 : ¬ n ≤ 65521 := fun e => h ⟨h1, e⟩
    simp [h2]
  · simp [h1]
theorem isP_true {N d : Nat} (h1 : 2 ≤ N) (h2 : N ≤ 65521) (hd : noD N d) (hdd : N < d * d) : isP (N : Int) = true := by
  simp only [isP, Bool.and_eq_true, decide_eq_true_eq, Int.toNat_natCast]
  refine ⟨⟨by omega, by omega⟩, fun k hk h2k hkk => ?_⟩
  refine hd k ?_ h2k hkk
  rcases Nat.lt_or_ge k d with h | h
  · exact h
  · have := Nat.mul_le_mul h h
    omega
theorem isP_div {N d : Nat} (h2 : N ≤ 65521) (hd : 2 ≤ d) (hdd : d * d ≤ N) (hm : N % d = 0) : isP (N : Int) = false := by
  have hlt : d < 256 := by
    rcases Nat.lt_or_ge d 256 with h | h
    · exact h
    · have := Nat.mul_le_mul h h
      omega
  simp only [isP, Int.toNat_natCast]
  have : ¬ (∀ k : Nat, k < 256 → 2 ≤ k → k * k ≤ N → N % k ≠ 0) := fun h => h d hlt hd hdd hm
  simp only [this, decide_false, Bool.and_false]
theorem noD_next {N d : Nat} (h : noD N d) (hm : N % d ≠ 0) : noD N (d + 1) := by
  intro k hk h2 hkk
  rcases Nat.lt_or_ge k d with h' | h'
  · exact h k h' h2 hkk
  · obtain rfl : k = d := by omega
    exact hm
theorem small_sq {N d : Nat} (h2 : N ≤ 65521) (hdd : d * d ≤ N) : d < 256 := by
  rcases Nat.lt_or_ge d 256 with h | h
  · exact h
  · have := Nat.mul_le_mul h h
    omega

attribute [local simp] RunL_cons RunL_nil AOp_none AOp_some acK_v acK_call agK_tt agK_ff agK_tf agK_ft agK_tup agK_i aop aun St.ev St.heap St.put thenQ blockQ scopeQ upd_apply S0 argSlot lowV V.cells V.isAgg V.fits V.part partOk plains St.ret retSV svOf svsOf retQ retP retAll retOne uL_length uL_get? uL_get St.elems retH ownIdx ownAt
attribute [local simp] RunD_none RunD_some RunD_nil RunE_any acD_v acD_call agD_tt agD_ff agD_tf agD_ft agD_tup entsOf svref SO.opds SO.writes SO.makes callEnt pureSV pureOf RV.isOwn
attribute [local simp] abin_add abin_sub abin_mul abin_quo abin_rem abin_eql abin_neq abin_lss abin_leq abin_gtr abin_geq
attribute [local simp] uL_snoc uL_set uL_take uL_drop uL_append uL_replicate uL_nil
attribute [local simp] acK_callG acD_callG St.giv gsSV gvSV retEnts ownEnts SO.still
attribute [local simp] S0G argSlotG givSV retQG retPG retAllG retOneG HObj.width V.scalar trimQ V.byte
attribute [local simp] zv V.fits fillOk fillV Z_eq
def IsS (N sd : Nat) (K : St → Prop) (S : St) : Prop := ∃ d : Nat, 2 ≤ d ∧ d ≤ 256 ∧ noD N d ∧ S.σ 0 = .p (.i .i64 (N : Int)) ∧ S.σ sd = .p (.i .i64 (d : Int)) ∧ K S
def dM (sd : Nat) (S : St) : Nat := match S.σ sd with | .p (.i _ n) => 300 - n.toNat | _ => 0
theorem dM_eq {sd : Nat} {S : St} {n : Nat} (h : S.σ sd = .p (.i .i64 (n : Int))) : dM sd S = 300 - n := by simp only [dM, h]; omega

theorem pis (n : Int) (hn1 : -9223372036854775808 ≤ n) (hn2 : n ≤ 9223372036854775807) : Spec Tryz.prog f_prime_Is [.i .i64 n] (· = [.pure (.b (isP n))]) := by
  refine spec_at Tryz.func94 ok_prime_Is [] rfl (by simp) ?_
  unfold sc_prime_Is
  by_cases h1 : 2 ≤ n
  · by_cases h2 : n ≤ 65521
    · obtain ⟨N, rfl⟩ := Int.eq_ofNat_of_zero_le (show 0 ≤ n by omega)
      have g1 : 2 ≤ N := by omega
      have g2 : N ≤ 65521 := by omega
      refine WS_seq (WS_reg [] ?_); simp [h1, h2]
      refine WS_scope ?_
      refine WS_seq (WS_reg [] ?_); simp [h1, h2]
      refine WS_seq ?_
      refine WS_skip ?_; simp [h1, h2]
      refine WS_seq (WS_seq (WS_reg [] ?_)); simp [h1, h2]
      refine WS_block ?_
      refine WS_loop (IsS N 4 fun S => S.σ 3 = .p (.b true)) (dM 4) ⟨2, by omega, by omega, fun k hk h => by omega, rfl, rfl, by simp [h1, h2, g1, g2]⟩ ?_
      rintro S ⟨d, d2, d256, hno, s0, s4, s3⟩
      have dm := dM_eq s4
      have ew : IntKind.i64.wrap ((d : Int) * (d : Int)) = (d : Int) * (d : Int) := by
        have := Nat.mul_le_mul d256 d256
        rw [← Int.natCast_mul]; exact i64_nat _ (by omega)
      have tm : (N : Int).tmod (d : Int) = ((N % d : Nat) : Int) := tmod_nat N d
      have es := i64_succ d (by omega)
      have d0 : d ≠ 0 := by omega
      by_cases hdd : d * d ≤ N
      · have hdI : (d : Int) * (d : Int) ≤ (N : Int) := by rw [← Int.natCast_mul]; omega
        have hs := small_sq g2 hdd
        by_cases hm : N % d = 0
        · rw [isP_div g2 d2 hdd hm]
          refine WS_seq (WS_seq (WS_reg [] ?_)); simp [s0, s4, s3, hdI, hm, ew, tm, es, d0]
          refine WS_cond (t := true) (by simp [s0, s4, s3, hdI, hm, ew, tm, es, d0]) (fun _ => ?_) (fun h => by cases h)
          refine WS_skip ?_; simp [s0, s4, s3, hdI, hm, ew, tm, es, d0]
          refine WS_seq (WS_block (WS_seq (WS_reg [] ?_))); simp [s0, s4, s3, hdI, hm, ew, tm, es, d0]
          refine WS_cond (t := true) (by simp [s0, s4, s3, hdI, hm, ew, tm, es, d0]) (fun _ => ?_) (fun h => by cases h)
          refine WS_seq (WS_reg [] ?_); simp [s0, s4, s3, hdI, hm, ew, tm, es, d0]
          refine WS_exit ?_; simp [s0, s4, s3, hdI, hm, ew, tm, es, d0]
          refine WS_seq (WS_reg [] ?_); simp [s0, s4, s3, hdI, hm, ew, tm, es, d0]
          refine WS_ret ?_; simp [s0, s4, s3, hdI, hm, ew, tm, es, d0]
        · have hmI : ¬ (N : Int) % (d : Int) = 0 := by rw [← Int.natCast_emod]; omega
          refine WS_seq (WS_seq (WS_reg [] ?_)); simp [s0, s4, s3, hdI, hm, ew, tm, es, d0, hmI]
          refine WS_cond (t := true) (by simp [s0, s4, s3, hdI, hm, ew, tm, es, d0, hmI]) (fun _ => ?_) (fun h => by cases h)
          refine WS_skip ?_; simp [s0, s4, s3, hdI, hm, ew, tm, es, d0, hmI]
          refine WS_seq (WS_block (WS_seq (WS_reg [] ?_))); simp [s0, s4, s3, hdI, hm, ew, tm, es, d0, hmI]
          refine WS_cond (t := false) (by simp [s0, s4, s3, hdI, hm, ew, tm, es, d0, hmI]) (fun h => by cases h) (fun _ => ?_)
          refine WS_skip ?_; simp [s0, s4, s3, hdI, hm, ew, tm, es, d0, hmI]
          refine WS_reg [] ?_; simp [s0, s4, s3, hdI, hm, ew, tm, es, d0, hmI]
          refine ⟨⟨d + 1, by omega, by omega, noD_next hno hm, by simp [s0], by simp, by simp [s3]⟩, ?_⟩
          rw [dm, dM_eq (n := d + 1) (by simp)]
          omega
      · rw [isP_true g1 g2 hno (by omega)]
        have hdI : ¬ (d : Int) * (d : Int) ≤ (N : Int) := by rw [← Int.natCast_mul]; omega
        refine WS_seq (WS_seq (WS_reg [] ?_)); simp [s0, s4, s3, hdI, ew]
        refine WS_cond (t := false) (by simp [s0, s4, s3, hdI, ew]) (fun h => by cases h) (fun _ => ?_)
        refine WS_exit ?_; simp [s0, s4, s3, hdI, ew]
        refine WS_seq (WS_reg [] ?_); simp [s0, s4, s3, hdI, ew]
        refine WS_ret ?_; simp [s0, s4, s3, hdI, ew]
    · rw [isP_no (by omega)]
      refine WS_seq (WS_reg [] ?_); simp [h1, h2]
      refine WS_scope ?_
      refine WS_seq (WS_reg [] ?_); simp [h1, h2]
      refine WS_seq ?_
      refine WS_skip ?_; simp [h1, h2]
      refine WS_seq (WS_seq (WS_reg [] ?_)); simp [h1, h2]
      refine WS_block ?_
      refine WS_loop (fun S => S.σ 3 = .p (.b false)) (fun _ => 0) (by simp [h1, h2]) ?_
      intro S s3
      refine WS_seq (WS_seq (WS_reg [] ?_)); simp [s3]
      refine WS_cond (t := false) (by simp [s3]) (fun h => by cases h) (fun _ => ?_)
      refine WS_exit ?_; simp [s3]
      refine WS_seq (WS_reg [] ?_); simp [s3]
      refine WS_ret ?_; simp [s3]
  · rw [isP_no (by omega)]
    refine WS_seq (WS_reg [] ?_); simp [h1]
    refine WS_scope ?_
    refine WS_seq (WS_reg [] ?_); simp [h1]
    refine WS_seq ?_
    refine WS_skip ?_; simp [h1]
    refine WS_seq (WS_seq (WS_reg [] ?_)); simp [h1]
    refine WS_block ?_
    refine WS_loop (fun S => S.σ 3 = .p (.b false)) (fun _ => 0) (by simp [h1]) ?_
    intro S s3
    refine WS_seq (WS_seq (WS_reg [] ?_)); simp [s3]
    refine WS_cond (t := false) (by simp [s3]) (fun h => by cases h) (fun _ => ?_)
    refine WS_exit ?_; simp [s3]
    refine WS_seq (WS_reg [] ?_); simp [s3]
    refine WS_ret ?_; simp [s3]

end Go.Vw
set_option linter.unusedVariables false
set_option linter.unusedSimpArgs false
namespace Go.Vw
open Go.Proofs

/-- p is the least prime above n. -/
structure NextIs (n : Int) (p : Nat) : Prop where
  gt : n < (p : Int)
  two : 2 ≤ p
  le : p ≤ 65521
  is : isP (p : Int) = true
  no : ∀ k : Nat, n < (k : Int) → k < p → isP (k : Int) = false

def NxS (n : Int) (p si : Nat) (S : St) : Prop := ∃ k : Nat, S.σ si = .p (.i .i64 (k : Int)) ∧ n < (k : Int) ∧ k ≤ p
def kM (p si : Nat) (S : St) : Nat := match S.σ si with | .p (.i _ n) => p - n.toNat | _ => 0
theorem kM_eq {p si : Nat} {S : St} {n : Nat} (h : S.σ si = .p (.i .i64 (n : Int))) : kM p si S = p - n := by simp only [kM, h]; omega

attribute [local simp] RunL_cons RunL_nil AOp_none AOp_some acK_v acK_call agK_tt agK_ff agK_tf agK_ft agK_tup agK_i aop aun St.ev St.heap St.put thenQ blockQ scopeQ upd_apply S0 argSlot lowV V.cells V.isAgg V.fits V.part partOk plains St.ret retSV svOf svsOf retQ retP retAll retOne uL_length uL_get? uL_get St.elems retH ownIdx ownAt
attribute [local simp] RunD_none RunD_some RunD_nil RunE_any acD_v acD_call agD_tt agD_ff agD_tf agD_ft agD_tup entsOf svref SO.opds SO.writes SO.makes callEnt pureSV pureOf RV.isOwn
attribute [local simp] abin_add abin_sub abin_mul abin_quo abin_rem abin_eql abin_neq abin_lss abin_leq abin_gtr abin_geq
attribute [local simp] uL_snoc uL_set uL_take uL_drop uL_append uL_replicate uL_nil
attribute [local simp] acK_callG acD_callG St.giv gsSV gvSV retEnts ownEnts SO.still
attribute [local simp] S0G argSlotG givSV retQG retPG retAllG retOneG HObj.width V.scalar trimQ V.byte
attribute [local simp] zv V.fits fillOk fillV Z_eq
theorem start_at (n : Int) : ∃ m : Nat, (m : Int) = (if 1 > n then 1 else n) ∧ 1 ≤ m := by
  split
  · exact ⟨1, rfl, by omega⟩
  · exact ⟨n.toNat, by omega, by omega⟩

theorem pnext {n : Int} (h : n < 65521) {p : Nat} (hp : NextIs n p) : Spec Tryz.prog f_prime_Next [.i .i64 n] (· = [.pure (.i .i64 (p : Int)), .pure (.i .i64 0)]) := by
  have h' : ¬ 65521 ≤ n := by omega
  obtain ⟨m, hm, m1⟩ := start_at n
  have pg := hp.gt
  have p2 := hp.two
  have pl := hp.le
  have hmp : m < p := by split at hm <;> omega
  have hnm : n ≤ (m : Int) := by split at hm <;> omega
  have ws := i64_succ m (by omega)
  refine spec_at Tryz.func48 ok_prime_Next [] rfl (by simp) ?_
  unfold sc_prime_Next
  refine WS_seq (WS_reg [] ?_); simp [h']
  refine WS_seq (WS_seq (WS_reg [] ?_)); simp [h']
  refine WS_cond (t := false) (by simp [h']) (fun h => by cases h) (fun _ => ?_)
  refine WS_skip ?_; simp [h']
  refine WS_seq (WS_seq (WS_reg [] ?_)); simp [h']
  refine WS_block ?_
  refine WS_loop (NxS n p 0) (kM p 0) ⟨m + 1, ?_, by omega, by omega⟩ ?_
  · have e : (if n < 1 then (1 : Int) else n) = (m : Int) := by rw [hm]
    simp [e, ws]
  rintro S ⟨k, s0, hnk, hkp⟩
  have km := kM_eq (p := p) s0
  have is := pis (k : Int) (by omega) (by omega)
  by_cases hkp' : k = p
  · subst hkp'
    rw [hp.is] at is
    refine WS_seq (WS_seq (WS_reg [] ?_)); simp [s0]
    refine callK is ?_; simp [s0]
    refine WS_cond (t := false) (by simp [s0]) (fun h => by cases h) (fun _ => ?_)
    refine WS_exit ?_; simp [s0]
    refine WS_seq (WS_reg [] ?_); simp [s0]
    refine WS_ret ?_; simp [s0]
  · rw [hp.no k hnk (by omega)] at is
    have w1 := i64_succ k (by omega)
    refine WS_seq (WS_seq (WS_reg [] ?_)); simp [s0, w1]
    refine callK is ?_; simp [s0, w1]
    refine WS_cond (t := true) (by simp [s0, w1]) (fun _ => ?_) (fun h => by cases h)
    refine WS_skip ?_; simp [s0, w1]
    refine WS_seq (WS_block ?_)
    refine WS_skip ?_; simp [s0, w1]
    refine WS_reg [] ?_; simp [s0, w1]
    refine ⟨⟨k + 1, by simp, by omega, by omega⟩, ?_⟩
    rw [km, kM_eq (n := k + 1) (by simp)]
    omega

end Go.Vw
set_option linter.unusedVariables false
set_option linter.unusedSimpArgs false
namespace Go.Vw
open Go.Proofs

def restR (a m : Int) : List RV := if m ≤ 0 then [.pure (Z 0), .pure (.i .i64 1)] else [.pure (Z (a % m)), .pure (.i .i64 0)]
/-- The number nearest to nought with the same rest. -/
def nearZ (a m : Int) : Int := if m < a % m + a % m then a % m - m else a % m
def nearR (a m : Int) : List RV := if m ≤ 0 then [.pure (Z 0), .pure (.i .i64 1)] else [.pure (Z (nearZ a m)), .pure (.i .i64 0)]

attribute [local simp] RunL_cons RunL_nil AOp_none AOp_some acK_v acK_call agK_tt agK_ff agK_tf agK_ft agK_tup agK_i aop aun St.ev St.heap St.put thenQ blockQ scopeQ upd_apply S0 argSlot lowV V.cells V.isAgg V.fits V.part partOk plains St.ret retSV svOf svsOf retQ retP retAll retOne uL_length uL_get? uL_get St.elems retH ownIdx ownAt
attribute [local simp] RunD_none RunD_some RunD_nil RunE_any acD_v acD_call agD_tt agD_ff agD_tf agD_ft agD_tup entsOf svref SO.opds SO.writes SO.makes callEnt pureSV pureOf RV.isOwn
attribute [local simp] abin_add abin_sub abin_mul abin_quo abin_rem abin_eql abin_neq abin_lss abin_leq abin_gtr abin_geq
attribute [local simp] uL_snoc uL_set uL_take uL_drop uL_append uL_replicate uL_nil
attribute [local simp] acK_callG acD_callG St.giv gsSV gvSV retEnts ownEnts SO.still
attribute [local simp] S0G argSlotG givSV retQG retPG retAllG retOneG HObj.width V.scalar trimQ V.byte
attribute [local simp] zv V.fits fillOk fillV Z_eq
theorem prest {k : Nat} {v w : V} {x y : Int} (hv : IsZ k v x) (hw : IsZ k w y) (hk : k ≤ 2 ^ 35) : Spec Tryz.prog f_prime_Rest [v, w] (· = restR x y) := by
  have sg := zsign hw (by omega)
  have dv := fun h => zdiv hv hw hk h
  obtain ⟨n1, l1, rfl, h1, hx⟩ := hv
  obtain ⟨n2, l2, rfl, h2, hy⟩ := hw
  refine spec_at Tryz.func23 ok_prime_Rest [] rfl (by simp) ?_
  unfold sc_prime_Rest
  by_cases h0 : y ≤ 0
  · have hs : y.sign ≤ 0 := by rw [Int.sign_nonpos_iff]; exact h0
    rw [restR, if_pos h0]
    refine WS_seq (WS_reg [] ?_); simp [hs, Z_zero]
    refine WS_seq (WS_seq (WS_reg [] ?_)); simp [hs, Z_zero]
    refine callK sg ?_; simp [hs, Z_zero]
    refine WS_cond (t := true) (by simp [hs, Z_zero]) (fun _ => ?_) (fun h => by cases h)
    refine WS_seq (WS_reg [] ?_); simp [hs, Z_zero]
    refine WS_ret ?_; simp [hs, Z_zero]
  · have hs : ¬ y.sign ≤ 0 := by rw [Int.sign_nonpos_iff]; exact h0
    have dv := dv (by omega)
    rw [restR, if_neg h0]
    refine WS_seq (WS_reg [] ?_); simp [hs]
    refine WS_seq (WS_seq (WS_reg [] ?_)); simp [hs]
    refine callK sg ?_; simp [hs]
    refine WS_cond (t := false) (by simp [hs]) (fun h => by cases h) (fun _ => ?_)
    refine WS_skip ?_; simp [hs]
    refine WS_seq (WS_reg [] ?_); simp [hs]
    refine callK dv ?_; simp [hs]
    refine WS_seq (WS_reg [] ?_); simp [hs]
    refine WS_ret ?_; simp [hs]

theorem pone {k : Nat} {v : V} {x : Int} (hv : IsZ k v x) (hk : k ≤ 2 ^ 35) : Spec Tryz.prog f_prime_one [v] (· = [.pure (.b (decide (x = 1)))]) := by
  have o1 := zof 1 (by omega) (by omega)
  have cm := zcmp (hv.mono (show k ≤ k + 1 by omega)) (isZ_of (x := 1) (k := k + 1) (by have := zlen_one; omega)) (by omega)
  have e : ((x - 1).sign == 0) = decide (x = 1) := by
    by_cases h : x = 1
    · subst h; rfl
    · have : (x - 1).sign ≠ 0 := by rw [Ne, Int.sign_eq_zero_iff_zero]; omega
      simp [h, this]
  obtain ⟨n1, l1, rfl, h1, hx⟩ := hv
  obtain ⟨s, hs⟩ : ∃ s, s = (x - 1).sign := ⟨_, rfl⟩
  rw [← hs] at cm e
  refine spec_at Tryz.func53 ok_prime_one [] rfl (by simp) ?_
  unfold sc_prime_one
  refine WS_seq (WS_reg [] ?_); simp [e]
  refine WS_seq (WS_regD [] ?_); simp [e]
  refine callD o1 rfl ?_; simp [e]
  refine callD cm rfl ?_; simp [e]
  refine ⟨rfl, ?_⟩
  refine WS_ret ?_; simp [e]

theorem pnear {k : Nat} {v w : V} {x y : Int} (hv : IsZ k v x) (hw : IsZ k w y) (hk : k ≤ 2 ^ 35) : Spec Tryz.prog f_prime_Near [v, w] (· = nearR x y) := by
  have rs := prest hv hw hk
  have q2 := hw.zlen
  by_cases h0 : y ≤ 0
  · rw [restR, if_pos h0] at rs
    rw [nearR, if_pos h0]
    obtain ⟨n1, l1, rfl, h1, hx⟩ := hv
    obtain ⟨n2, l2, rfl, h2, hy⟩ := hw
    refine spec_at Tryz.func25 ok_prime_Near [] rfl (by simp) ?_
    unfold sc_prime_Near
    refine WS_seq (WS_reg [] ?_); simp
    refine WS_seq (WS_reg [] ?_); simp
    refine callK rs ?_; simp
    refine WS_seq (WS_seq (WS_regD [] ?_)); simp
    refine ⟨rfl, ?_⟩
    refine WS_cond (t := false) (by simp) (fun h => by cases h) (fun _ => ?_)
    refine WS_skip ?_; simp
    refine WS_seq (WS_reg [] ?_); simp
    refine WS_ret ?_; simp
  · rw [restR, if_neg h0] at rs
    rw [nearR, if_neg h0]
    have rl := Nat.le_trans (zlen_emod x y (by omega)) q2
    obtain ⟨r, hr⟩ : ∃ r, r = x % y := ⟨_, rfl⟩
    rw [← hr] at rs rl
    have ad := zadd (isZ_of rl) (isZ_of rl) (by omega)
    have al : zlen (r + r) ≤ k + 1 := by have := zlen_add r r; omega
    have cm := zcmp (isZ_of al) (hw.mono (show k ≤ k + 1 by omega)) (by omega)
    have sb := zsub (isZ_of rl) hw (by omega)
    obtain ⟨n1, l1, rfl, h1, hx⟩ := hv
    obtain ⟨n2, l2, rfl, h2, hy⟩ := hw
    rw [nearZ, ← hr]
    by_cases hlt : y < r + r
    · have hs : 0 < (r + r - y).sign := by rw [Int.sign_pos_iff]; omega
      rw [if_pos hlt]
      refine spec_at Tryz.func25 ok_prime_Near [] rfl (by simp) ?_
      unfold sc_prime_Near
      refine WS_seq (WS_reg [] ?_); simp [hs]
      refine WS_seq (WS_reg [] ?_); simp [hs]
      refine callK rs ?_; simp [hs]
      refine WS_seq (WS_seq (WS_regD [] ?_)); simp [hs]
      refine callD ad rfl ?_; simp [hs]
      refine callD cm rfl ?_; simp [hs]
      refine ⟨rfl, ?_⟩
      refine WS_cond (t := true) (by simp [hs]) (fun _ => ?_) (fun h => by cases h)
      refine WS_reg [] ?_; simp [hs]
      refine callK sb ?_; simp [hs]
      refine WS_seq (WS_reg [] ?_); simp [hs]
      refine WS_ret ?_; simp [hs]
    · have hs : ¬ 0 < (r + r - y).sign := by rw [Int.sign_pos_iff]; omega
      rw [if_neg hlt]
      refine spec_at Tryz.func25 ok_prime_Near [] rfl (by simp) ?_
      unfold sc_prime_Near
      refine WS_seq (WS_reg [] ?_); simp [hs]
      refine WS_seq (WS_reg [] ?_); simp [hs]
      refine callK rs ?_; simp [hs]
      refine WS_seq (WS_seq (WS_regD [] ?_)); simp [hs]
      refine callD ad rfl ?_; simp [hs]
      refine callD cm rfl ?_; simp [hs]
      refine ⟨rfl, ?_⟩
      refine WS_cond (t := false) (by simp [hs]) (fun h => by cases h) (fun _ => ?_)
      refine WS_skip ?_; simp [hs]
      refine WS_seq (WS_reg [] ?_); simp [hs]
      refine WS_ret ?_; simp [hs]

/-- What Crt answers. -/
def crtZ (a m b n : Int) : Int := (a + m * ((b - a) * bezS m n % n)) % (m * n)
def crtR (a m b n : Int) : List RV := if m ≤ 0 ∨ n ≤ 0 ∨ (Int.gcd m n : Int) ≠ 1 then [.pure (Z 0), .pure (.i .i64 1)] else [.pure (Z (crtZ a m b n)), .pure (.i .i64 0)]

set_option maxHeartbeats 1000000 in
theorem pcrt {k : Nat} {v1 v2 v3 v4 : V} {a m b n : Int} (ha : IsZ k v1 a) (hm : IsZ k v2 m) (hb : IsZ k v3 b) (hn : IsZ k v4 n) (hk : k ≤ 2 ^ 20) : Spec Tryz.prog f_prime_Crt [v1, v2, v3, v4] (· = crtR a m b n) := by
  have bz := zbezout hm hn (by omega)
  rw [bezR] at bz
  have qa := ha.zlen
  have qm := hm.zlen
  have qb := hb.zlen
  have qn := hn.zlen
  have gl := gcd_len qm qn
  have sl := bezS_len (a := m) (b := n) qn
  have sm := zsign hm (by omega)
  have sn := zsign hn (by omega)
  have on := pone (isZ_of gl) (by omega)
  have sb := zsub hb ha (by omega)
  have l1 := zlen_sub b a
  obtain ⟨S, hS⟩ : ∃ s, s = bezS m n := ⟨_, rfl⟩
  rw [← hS] at bz sl
  have mu := zmul (isZ_of (x := b - a) (k := 2 ^ 22) (by omega)) (isZ_of (x := S) (k := 2 ^ 22) (by omega)) (by omega)
  have l2 := zlen_mul (b - a) S
  have r1 := prest (isZ_of (x := (b - a) * S) (k := 2 ^ 23) (by omega)) (hn.mono (by omega)) (by omega)
  have l3 := zlen_emod ((b - a) * S) n
  obtain ⟨G, hG⟩ : ∃ g : Int, g = (Int.gcd m n : Int) := ⟨_, rfl⟩
  have hR : crtR a m b n = if m ≤ 0 ∨ n ≤ 0 ∨ G ≠ 1 then [.pure (Z 0), .pure (.i .i64 1)] else [.pure (Z ((a + m * ((b - a) * S % n)) % (m * n))), .pure (.i .i64 0)] := by rw [crtR, crtZ, hG, hS]
  rw [hR]
  rw [← hG] at bz gl on
  by_cases m0 : m ≤ 0
  · have hs : m.sign ≤ 0 := by rw [Int.sign_nonpos_iff]; exact m0
    rw [if_pos (.inl m0)]
    obtain ⟨n1, d1, rfl, h1, _⟩ := ha
    obtain ⟨n2, d2, rfl, h2, _⟩ := hm
    obtain ⟨n3, d3, rfl, h3, _⟩ := hb
    obtain ⟨n4, d4, rfl, h4, _⟩ := hn
    refine spec_at Tryz.func10 ok_prime_Crt [] rfl (by simp) ?_
    unfold sc_prime_Crt
    refine WS_seq (WS_reg [] ?_); simp [hs, Z_zero]
    refine WS_seq (WS_reg [] ?_); simp [hs, Z_zero]
    refine callK bz ?_; simp [hs, Z_zero]
    refine WS_seq (WS_seq (WS_reg [] ?_)); simp [hs, Z_zero]
    refine callK sm ?_; simp [hs, Z_zero]
    refine WS_cond (t := true) (by simp [hs, Z_zero]) (fun _ => ?_) (fun h => by cases h)
    refine WS_seq (WS_reg [] ?_); simp [hs, Z_zero]
    refine WS_ret ?_; simp [hs, Z_zero]
  · have hs : ¬ m.sign ≤ 0 := by rw [Int.sign_nonpos_iff]; exact m0
    by_cases n0 : n ≤ 0
    · have hs2 : n.sign ≤ 0 := by rw [Int.sign_nonpos_iff]; exact n0
      rw [if_pos (.inr (.inl n0))]
      obtain ⟨n1, d1, rfl, h1, _⟩ := ha
      obtain ⟨n2, d2, rfl, h2, _⟩ := hm
      obtain ⟨n3, d3, rfl, h3, _⟩ := hb
      obtain ⟨n4, d4, rfl, h4, _⟩ := hn
      refine spec_at Tryz.func10 ok_prime_Crt [] rfl (by simp) ?_
      unfold sc_prime_Crt
      refine WS_seq (WS_reg [] ?_); simp [hs, hs2, Z_zero]
      refine WS_seq (WS_reg [] ?_); simp [hs, hs2, Z_zero]
      refine callK bz ?_; simp [hs, hs2, Z_zero]
      refine WS_seq (WS_seq (WS_reg [] ?_)); simp [hs, hs2, Z_zero]
      refine callK sm ?_; simp [hs, hs2, Z_zero]
      refine callK sn ?_; simp [hs, hs2, Z_zero]
      refine WS_cond (t := true) (by simp [hs, hs2, Z_zero]) (fun _ => ?_) (fun h => by cases h)
      refine WS_seq (WS_reg [] ?_); simp [hs, hs2, Z_zero]
      refine WS_ret ?_; simp [hs, hs2, Z_zero]
    · have hs2 : ¬ n.sign ≤ 0 := by rw [Int.sign_nonpos_iff]; exact n0
      by_cases g1 : G = 1
      · rw [if_neg (by omega)]
        rw [decide_eq_true g1] at on
        have l3 := l3 (by omega)
        rw [restR, if_neg n0] at r1
        obtain ⟨R, hRr⟩ : ∃ r, r = (b - a) * S % n := ⟨_, rfl⟩
        rw [← hRr] at r1 l3 ⊢
        have m1 := zmul hm (isZ_of (x := R) (k := k) (by omega)) (by omega)
        have l4 := zlen_mul m R
        have ad := zadd (ha.mono (show k ≤ 2 ^ 22 by omega)) (isZ_of (x := m * R) (k := 2 ^ 22) (by omega)) (by omega)
        have l5 := zlen_add a (m * R)
        have mn := zmul hm hn (by omega)
        have l6 := zlen_mul m n
        have r2 := prest (isZ_of (x := a + m * R) (k := 2 ^ 23) (by omega)) (isZ_of (x := m * n) (k := 2 ^ 23) (by omega)) (by omega)
        have mnp : ¬ m * n ≤ 0 := by have := Int.mul_pos (show 0 < m by omega) (show 0 < n by omega); omega
        rw [restR, if_neg mnp] at r2
        obtain ⟨n1, d1, rfl, h1, _⟩ := ha
        obtain ⟨n2, d2, rfl, h2, _⟩ := hm
        obtain ⟨n3, d3, rfl, h3, _⟩ := hb
        obtain ⟨n4, d4, rfl, h4, _⟩ := hn
        refine spec_at Tryz.func10 ok_prime_Crt [] rfl (by simp) ?_
        unfold sc_prime_Crt
        refine WS_seq (WS_reg [] ?_); simp [hs, hs2]
        refine WS_seq (WS_reg [] ?_); simp [hs, hs2]
        refine callK bz ?_; simp [hs, hs2]
        refine WS_seq (WS_seq (WS_reg [] ?_)); simp [hs, hs2]
        refine callK sm ?_; simp [hs, hs2]
        refine callK sn ?_; simp [hs, hs2]
        refine callK on ?_; simp [hs, hs2]
        refine WS_cond (t := false) (by simp [hs, hs2]) (fun h => by cases h) (fun _ => ?_)
        refine WS_skip ?_; simp [hs, hs2]
        refine WS_seq (WS_regD [] ?_); simp [hs, hs2]
        refine callD sb rfl ?_; simp [hs, hs2]
        refine callD mu rfl ?_; simp [hs, hs2]
        refine callD r1 rfl ?_; simp [hs, hs2]
        refine ⟨rfl, ?_⟩
        refine WS_seq (WS_regD [] ?_); simp [hs, hs2]
        refine callD m1 rfl ?_; simp [hs, hs2]
        refine callD ad rfl ?_; simp [hs, hs2]
        refine callD mn rfl ?_; simp [hs, hs2]
        refine callD r2 rfl ?_; simp [hs, hs2]
        refine ⟨rfl, ?_⟩
        refine WS_ret ?_; simp [hs, hs2]
      · rw [if_pos (.inr (.inr g1))]
        rw [decide_eq_false g1] at on
        obtain ⟨n1, d1, rfl, h1, _⟩ := ha
        obtain ⟨n2, d2, rfl, h2, _⟩ := hm
        obtain ⟨n3, d3, rfl, h3, _⟩ := hb
        obtain ⟨n4, d4, rfl, h4, _⟩ := hn
        refine spec_at Tryz.func10 ok_prime_Crt [] rfl (by simp) ?_
        unfold sc_prime_Crt
        refine WS_seq (WS_reg [] ?_); simp [hs, hs2, Z_zero]
        refine WS_seq (WS_reg [] ?_); simp [hs, hs2, Z_zero]
        refine callK bz ?_; simp [hs, hs2, Z_zero]
        refine WS_seq (WS_seq (WS_reg [] ?_)); simp [hs, hs2, Z_zero]
        refine callK sm ?_; simp [hs, hs2, Z_zero]
        refine callK sn ?_; simp [hs, hs2, Z_zero]
        refine callK on ?_; simp [hs, hs2, Z_zero]
        refine WS_cond (t := true) (by simp [hs, hs2, Z_zero]) (fun _ => ?_) (fun h => by cases h)
        refine WS_seq (WS_reg [] ?_); simp [hs, hs2, Z_zero]
        refine WS_ret ?_; simp [hs, hs2, Z_zero]

end Go.Vw
set_option linter.unusedVariables false
set_option linter.unusedSimpArgs false
namespace Go.Vw
open Go.Proofs

/-- Euclid's way with the cofactors, down to the first rest that is not above h: its last two rows. -/
def frun (h : Int) (x y : Int × Int × Int) : (Int × Int × Int) × (Int × Int × Int) :=
  if hh : y.1 ≤ h ∨ y.1 = 0 then (x, y) else frun h y (x.1 % y.1, x.2.1 - x.1 / y.1 * y.2.1, x.2.2 - x.1 / y.1 * y.2.2)
termination_by y.1.natAbs
decreasing_by
  exact (ediv_natAbs_le x.1 y.1).2 (fun e => hh (.inr e))

theorem frun_end {h : Int} {x y : Int × Int × Int} (h1 : y.1 ≤ h) : frun h x y = (x, y) := by unfold frun; rw [dif_pos (.inl h1)]
theorem frun_step {h : Int} {x y : Int × Int × Int} (h1 : h < y.1) (h0 : 0 ≤ h) : frun h x y = frun h y (x.1 % y.1, x.2.1 - x.1 / y.1 * y.2.1, x.2.2 - x.1 / y.1 * y.2.2) := by
  rw [frun, dif_neg (by omega)]

/-- What two rows of that way are, at every pass. -/
structure FraI (A B : Int) (x y : Int × Int × Int) : Prop where
  b : BezI A B x y
  lt : y.1 < x.1
  t0 : y.2.2 ≠ 0
  det : x.2.1 * y.2.2 - y.2.1 * x.2.2 = 1 ∨ x.2.1 * y.2.2 - y.2.1 * x.2.2 = -1

theorem fraI_first {A B : Int} (hA : 0 ≤ A) (hB : 0 ≤ B) (h : B < A) : FraI A B (A, 1, 0) (B, 0, 1) where
  b := bezI_first hA hB
  lt := h
  t0 := by simp
  det := by simp

theorem fraI_next {A B : Int} {x y : Int × Int × Int} (h : FraI A B x y) (h0 : y.1 ≠ 0) : FraI A B y (x.1 % y.1, x.2.1 - x.1 / y.1 * y.2.1, x.2.2 - x.1 / y.1 * y.2.2) := by
  have hb := bezI_next h.b h0
  have py := h.b.py
  have hl := Int.emod_lt_of_pos x.1 (show 0 < y.1 by omega)
  have hq : 1 ≤ x.1 / y.1 := by
    have := h.lt
    exact (Int.le_ediv_iff_mul_le (by omega)).2 (by omega)
  obtain ⟨e, xs, ys, xt, yt, he, p1, p2, p3, p4, e1, e2, e3, e4, f1, f2, l1, l2, l3, l4⟩ := h.b.sg
  have ht := h.t0
  have hd := h.det
  obtain ⟨q, hqe⟩ : ∃ q, q = x.1 / y.1 := ⟨_, rfl⟩
  rw [← hqe] at hb hq ⊢
  refine ⟨hb, hl, ?_, ?_⟩
  · simp only
    have hy : yt ≠ 0 := by
      rintro rfl
      rw [e4, Int.mul_zero] at ht
      exact ht rfl
    have hm := Int.mul_le_mul hq (show 1 ≤ yt by omega) (by omega) (by omega)
    rcases he with rfl | rfl
    · intro hz
      rw [e3, e4] at hz
      grind
    · intro hz
      rw [e3, e4] at hz
      grind
  · simp only
    rcases hd with hd | hd
    · right; grind
    · left; grind

/-- Where that way ends. -/
theorem frun_ends {A B h : Int} (h0 : 0 ≤ h) : ∀ (n : Nat) (x y : Int × Int × Int), y.1.natAbs ≤ n → FraI A B x y → h < x.1 → FraI A B (frun h x y).1 (frun h x y).2 ∧ (frun h x y).2.1 ≤ h ∧ h < (frun h x y).1.1 := by
  intro n
  induction n with
  | zero =>
    intro x y hn hI hx
    rw [frun_end (by omega)]
    exact ⟨hI, by simp only; omega, hx⟩
  | succ n ih =>
    intro x y hn hI hx
    by_cases h1 : y.1 ≤ h
    · rw [frun_end h1]
      exact ⟨hI, h1, hx⟩
    · rw [frun_step (by omega) h0]
      have h2 := (ediv_natAbs_le x.1 y.1).2 (by omega)
      exact ih _ _ (by simp only; omega) (fraI_next hI (by omega)) (by omega)

/-- The bound for both numbers. -/
def hOf (m : Int) : Int := (iroot ((m - 1) / 2).toNat 2 : Int)
theorem hOf_facts {m : Int} (hm : 0 < m) : 0 ≤ hOf m ∧ 2 * (hOf m * hOf m) < m ∧ (∀ n : Int, 2 * (n * n) < m → n ≤ hOf m ∧ -n ≤ hOf m) ∧ hOf m < m := by
  have hf := iroot_facts ((m - 1) / 2).toNat (show 0 < 2 by omega)
  rw [hOf]
  obtain ⟨r, hr⟩ : ∃ r, r = iroot ((m - 1) / 2).toNat 2 := ⟨_, rfl⟩
  rw [← hr] at hf ⊢
  obtain ⟨f1, f2⟩ := hf
  rw [Nat.pow_two] at f1 f2
  have g1 : (r : Int) * (r : Int) ≤ (m - 1) / 2 := by rw [← Int.natCast_mul]; omega
  have g2 : (m - 1) / 2 < ((r : Int) + 1) * ((r : Int) + 1) := by
    have e : ((r : Int) + 1) * ((r : Int) + 1) = (((r + 1) * (r + 1) : Nat) : Int) := by simp
    rw [e]
    omega
  have key : ∀ n : Int, 0 ≤ n → 2 * (n * n) < m → n ≤ (r : Int) := by
    intro n hn h2
    rcases Int.lt_or_le (r : Int) n with h | h
    · have := Int.mul_le_mul (show (r : Int) + 1 ≤ n by omega) (show (r : Int) + 1 ≤ n by omega) (by omega) hn
      omega
    · exact h
  refine ⟨by omega, by omega, ?_, ?_⟩
  · intro n h2
    rcases Int.le_total 0 n with h | h
    · have := key n h h2
      omega
    · have := key (-n) (by omega) (by rw [Int.neg_mul_neg]; exact h2)
      omega
  · rcases Int.lt_or_le (r : Int) m with h | h
    · exact h
    · have := Int.mul_le_mul (show (1 : Int) ≤ (r : Int) by omega) h (by omega) (by omega)
      omega

/-- The two rows that Fraction stops at. -/
def fraY (a m : Int) : (Int × Int × Int) × (Int × Int × Int) := frun (hOf m) (m, 1, 0) (a % m, 0, 1)
/-- What Fraction answers. -/
def fracR (a m : Int) : List RV := if m ≤ 0 then [.pure (rv false [] []), .pure (.i .i64 1)] else if hOf m < ((fraY a m).2.2.2.natAbs : Int) ∨ (Int.gcd (fraY a m).2.1 (fraY a m).2.2.2 : Int) ≠ 1 then [.pure (rv false [] []), .pure (.i .i64 5)] else makeR (fraY a m).2.1 (fraY a m).2.2.2

theorem fraY_ends {a m : Int} (hm : 0 < m) : FraI m (a % m) (fraY a m).1 (fraY a m).2 ∧ (fraY a m).2.1 ≤ hOf m ∧ hOf m < (fraY a m).1.1 := by
  have hf := hOf_facts hm
  exact frun_ends hf.1 _ _ _ (Nat.le_refl _) (fraI_first (by omega) (Int.emod_nonneg _ (by omega)) (Int.emod_lt_of_pos _ hm)) hf.2.2.2

/-- What is told has the rest, and is small. -/
structure KeepsR (a m : Int) (q : Rat) : Prop where
  rest : (a * (q.den : Int) - q.num) % m = 0
  den : 2 * ((q.den : Int) * (q.den : Int)) < m
  num : 2 * (q.num * q.num) < m

theorem dvd_of_eq {m x k : Int} (h : x = k * m) : x % m = 0 := by rw [h]; exact Int.mul_emod_left k m
theorem sq_lt {n h m : Int} (h0 : 2 * (h * h) < m) (h1 : n ≤ h) (h2 : -n ≤ h) : 2 * (n * n) < m := by
  have : n * n ≤ h * h := by
    rcases Int.le_total 0 n with hn | hn
    · exact Int.mul_le_mul h1 h1 hn (by omega)
    · rw [← Int.neg_mul_neg]
      exact Int.mul_le_mul h2 h2 (by omega) (by omega)
  omega

theorem frac_keeps {a m : Int} (hm : 0 < m) (h1 : ((fraY a m).2.2.2.natAbs : Int) ≤ hOf m) (h2 : (Int.gcd (fraY a m).2.1 (fraY a m).2.2.2 : Int) = 1) : (fraY a m).2.2.2 ≠ 0 ∧ KeepsR a m (Rat.divInt (fraY a m).2.1 (fraY a m).2.2.2) := by
  obtain ⟨hI, hr, hu⟩ := fraY_ends (a := a) hm
  obtain ⟨h0, hs, -, -⟩ := hOf_facts hm
  obtain ⟨p, hp⟩ : ∃ p, p = fraY a m := ⟨_, rfl⟩
  rw [← hp] at h1 h2 hI hr hu ⊢
  clear hp
  obtain ⟨x, r, s, t⟩ := p
  simp only at *
  have t0 := hI.t0
  have ey := hI.b.ey
  have py := hI.b.py
  simp only at t0 ey py
  have ed := Int.mul_ediv_add_emod a m
  refine ⟨t0, ?_⟩
  have en := divInt_num (x := r) t0
  have ed2 := divInt_den (x := r) t0
  rw [h2] at en
  simp only [Int.ediv_one] at en
  rw [h2, Int.ediv_one] at ed2
  have rr := sq_lt hs hr (by omega)
  have tt := sq_lt (n := t) hs (by omega) (by omega)
  by_cases ht : t < 0
  · rw [if_pos ht] at en
    have e3 : ((Rat.divInt r t).den : Int) = -t := by rw [ed2]; omega
    refine ⟨?_, ?_, ?_⟩
    · rw [e3, en]
      exact dvd_of_eq (k := s - t * (a / m)) (by rw [ey]; grind)
    · rw [e3, Int.neg_mul_neg]; exact tt
    · rw [en, Int.neg_mul_neg]; exact rr
  · rw [if_neg ht] at en
    have e3 : ((Rat.divInt r t).den : Int) = t := by rw [ed2]; omega
    refine ⟨?_, ?_, ?_⟩
    · rw [e3, en]
      exact dvd_of_eq (k := t * (a / m) - s) (by rw [ey]; grind)
    · rw [e3]; exact tt
    · rw [en]; exact rr

end Go.Vw
set_option linter.unusedVariables false
set_option linter.unusedSimpArgs false
namespace Go.Vw
open Go.Proofs

/-- What Fraction keeps at every pass. -/
def FrS (k : Nat) (A B h : Int) (F : (Int × Int × Int) × (Int × Int × Int)) (S : St) : Prop := ∃ (x y : Int × Int × Int) (g : Nat) (n : Bool) (l : List Nat), S.σ 15 = .ptr 15 g 0 ∧ S.h 15 = ⟨g, some (.box 24 [.b n, .sl none (uL l)])⟩ ∧ ZW k l ∧ zi n l = x.1 ∧
  S.σ 6 = .ptr 6 1 0 ∧ S.h 6 = ⟨1, some (.box 24 [.b (zn y.1), .sl none (uL (zl y.1))])⟩ ∧ S.σ 13 = .ptr 13 1 0 ∧ S.h 13 = ⟨1, some (.box 24 [.b (zn x.2.2), .sl none (uL (zl x.2.2))])⟩ ∧
  S.σ 14 = .ptr 14 1 0 ∧ S.h 14 = ⟨1, some (.box 24 [.b (zn y.2.2), .sl none (uL (zl y.2.2))])⟩ ∧ FraI A B x y ∧ frun h x y = F ∧ S.σ 11 = .ptr 11 1 0 ∧ S.h 11 = ⟨1, some (.box 24 [.b (zn h), .sl none (uL (zl h))])⟩ ∧
  S.σ 4 = .ptr 4 1 0 ∧ S.h 4 = ⟨1, some (.box 33 [.b false, .sl none [], .sl none []])⟩

attribute [local simp] RunL_cons RunL_nil AOp_none AOp_some acK_v acK_call agK_tt agK_ff agK_tf agK_ft agK_tup agK_i aop aun St.ev St.heap St.put thenQ blockQ scopeQ upd_apply S0 argSlot lowV V.cells V.isAgg V.fits V.part partOk plains St.ret retSV svOf svsOf retQ retP retAll retOne uL_length uL_get? uL_get St.elems retH ownIdx ownAt
attribute [local simp] RunD_none RunD_some RunD_nil RunE_any acD_v acD_call agD_tt agD_ff agD_tf agD_ft agD_tup entsOf svref SO.opds SO.writes SO.makes callEnt pureSV pureOf RV.isOwn
attribute [local simp] abin_add abin_sub abin_mul abin_quo abin_rem abin_eql abin_neq abin_lss abin_leq abin_gtr abin_geq
attribute [local simp] uL_snoc uL_set uL_take uL_drop uL_append uL_replicate uL_nil
attribute [local simp] acK_callG acD_callG St.giv gsSV gvSV retEnts ownEnts SO.still
attribute [local simp] S0G argSlotG givSV retQG retPG retAllG retOneG HObj.width V.scalar trimQ V.byte
attribute [local simp] zv V.fits fillOk fillV Z_eq rv Q_eq
set_option maxHeartbeats 1000000 in
theorem pfrac {k : Nat} {v w : V} {a m : Int} (hv : IsZ k v a) (hw : IsZ k w m) (hk : k ≤ 3000) : Spec Tryz.prog f_prime_Fraction [v, w] (· = fracR a m) := by
  have rs := prest hv hw (by omega)
  have qm := hw.zlen
  by_cases h0 : m ≤ 0
  · rw [restR, if_pos h0] at rs
    rw [fracR, if_pos h0]
    obtain ⟨n1, l1, rfl, h1, _⟩ := hv
    obtain ⟨n2, l2, rfl, h2, _⟩ := hw
    refine spec_at Tryz.func13 ok_prime_Fraction [] rfl (by simp) ?_
    unfold sc_prime_Fraction
    refine WS_seq (WS_reg [] ?_); simp
    refine WS_seq (WS_reg [] ?_); simp
    refine callK rs ?_; simp
    refine WS_seq (WS_seq (WS_reg [] ?_)); simp
    refine WS_cond (t := true) (by simp) (fun _ => ?_) (fun h => by cases h)
    refine WS_seq (WS_reg [] ?_); simp
    refine WS_ret ?_; simp
  · have hm : 0 < m := by omega
    obtain ⟨hf0, hf1, -, hf2⟩ := hOf_facts hm
    have rl := zlen_emod a m (by omega)
    rw [restR, if_neg h0] at rs
    rw [fracR, if_neg h0]
    have o0 := zof 0 (by omega) (by omega)
    have o1 := zof 1 (by omega) (by omega)
    have o2 := zof 2 (by omega) (by omega)
    have sb := zsub (hw.mono (show k ≤ k + 1 by omega)) (isZ_Z (z := 1) (k := k + 1) (by have := zlen_one; omega)) (by omega)
    have l1 := zlen_sub m 1
    have l1' := zlen_one
    have dv := zdiv (isZ_Z (z := m - 1) (k := k + 2) (by omega)) (isZ_Z (z := 2) (k := k + 2) (by have := zlen_small (x := 2) (by decide); omega)) (by omega) (by omega)
    have l2 := zlen_ediv (m - 1) 2
    have rt := zroot (isZ_Z (z := (m - 1) / 2) (k := k + 2) (by omega)) (by omega) 2 (by omega) (by omega)
    have hp : 0 ≤ (m - 1) / 2 := by omega
    rw [rootR, if_neg (by omega)] at rt
    have hh : (iroot ((m - 1) / 2).toNat (2 : Int).toNat : Int) = hOf m := rfl
    rw [hh] at rt
    have hl : zlen (hOf m) ≤ k := Nat.le_trans (zlen_le (by omega)) qm
    have hB0 := Int.emod_nonneg a (show m ≠ 0 by omega)
    have hBm := Int.emod_lt_of_pos a hm
    have hF : fraY a m = frun (hOf m) (m, 1, 0) (a % m, 0, 1) := rfl
    have ends := fraY_ends (a := a) hm
    obtain ⟨F, hFe⟩ : ∃ F, F = fraY a m := ⟨_, rfl⟩
    rw [← hFe] at hF ends ⊢
    obtain ⟨h, hhe⟩ : ∃ h, h = hOf m := ⟨_, rfl⟩
    rw [← hhe] at rt hl hF hf0 hf1 hf2 ends ⊢
    obtain ⟨B, hBe⟩ : ∃ B, B = a % m := ⟨_, rfl⟩
    rw [← hBe] at rs rl hB0 hBm hF ends
    have hbl : zlen B ≤ k := Nat.le_trans rl qm
    have hI := fraI_first (A := m) (B := B) (by omega) hB0 hBm
    obtain ⟨c1, hc1⟩ : ∃ c, c = (m - 1) % 2 := ⟨_, rfl⟩
    rw [← hc1] at dv
    obtain ⟨c2, hc2⟩ : ∃ c, c = (m - 1) / 2 := ⟨_, rfl⟩
    rw [← hc2] at dv rt
    obtain ⟨c3, hc3⟩ : ∃ c, c = m - 1 := ⟨_, rfl⟩
    rw [← hc3] at dv sb
    clear hFe hhe hBe hc1 hc2 hp l2 l1 hc3 hh
    have hmz : zlen m ≤ k := qm
    have hw2 := isZ_Z hmz
    obtain ⟨n1, d1, rfl, h1, _⟩ := hv
    obtain ⟨n2, d2, rfl, h2, hd2⟩ := hw
    refine spec_at Tryz.func13 ok_prime_Fraction [] rfl (by simp) ?_
    unfold sc_prime_Fraction
    refine WS_seq (WS_reg [] ?_); simp
    refine WS_seq (WS_reg [] ?_); simp
    refine callK rs ?_; simp
    refine WS_seq (WS_seq (WS_reg [] ?_)); simp
    refine WS_cond (t := false) (by simp) (fun h => by cases h) (fun _ => ?_)
    refine WS_skip ?_; simp
    refine WS_seq (WS_regD [] ?_); simp
    refine callD o1 rfl ?_; simp
    refine callD sb rfl ?_; simp
    refine callD o2 rfl ?_; simp
    refine callD dv rfl ?_; simp
    refine ⟨rfl, ?_⟩
    refine WS_seq (WS_reg [] ?_); simp
    refine callK rt ?_; simp
    refine WS_seq (WS_reg [] ?_); simp
    refine callK o0 ?_; simp
    refine callK o1 ?_; simp
    refine WS_seq (WS_seq (WS_reg [] ?_)); simp
    refine WS_block ?_
    refine WS_loop (FrS (k + 1) m B h F) (bxM 6) ⟨(m, 1, 0), (B, 0, 1), 1, n2, d2, rfl, rfl, h2.mono (by omega), hd2, rfl, rfl, rfl, rfl, rfl, rfl, hI, hF.symm, rfl, rfl, rfl, rfl⟩ ?_
    rintro S ⟨x, y, g, n, l, s15, h15, hl15, hx15, s6, h6, s13, h13, s14, h14, hI, hE, s11, h11, s4, h4⟩
    have d6 := bxM_eq h6
    rw [zl, Nm.val_dig (by omega)] at d6
    obtain ⟨lx, ly⟩ := bezI_len hI.b hmz hbl (by omega) hB0
    have cm := zcmp (isZ_Z ly.g) (isZ_Z (z := h) (k := k + 1) (by omega)) (by omega)
    have py := hI.b.py
    by_cases hle : y.1 ≤ h
    · have hs : ¬ 0 < (y.1 - h).sign := by rw [Int.sign_pos_iff]; omega
      rw [frun_end hle] at hE
      subst hE
      simp only at *
      have t0 := hI.t0
      have nt : zi false (zl y.2.2) = (y.2.2.natAbs : Int) := by simp [zi, zl_val]
      have wt : ZW (k + 1) (zl y.2.2) := ⟨zl_dl _, by have := ly.t; rwa [zlen] at this⟩
      have nm := znorm (isZ_zv (n := false) wt) (by omega)
      rw [nt] at nm
      have tl : zlen (y.2.2.natAbs : Int) ≤ k + 1 := Nat.le_trans (zlen_le (by omega)) ly.t
      have c2 := zcmp (isZ_Z tl) (isZ_Z (z := h) (k := k + 1) (by omega)) (by omega)
      by_cases hth : h < (y.2.2.natAbs : Int)
      · have hs2 : 0 < ((y.2.2.natAbs : Int) - h).sign := by rw [Int.sign_pos_iff]; omega
        rw [if_pos (.inl hth)]
        refine WS_seq (WS_seq (WS_reg [] ?_)); simp [s15, h15, s6, h6, s13, h13, s14, h14, s11, h11, s4, h4, hs, hs2]
        refine callK cm ?_; simp [s15, h15, s6, h6, s13, h13, s14, h14, s11, h11, s4, h4, hs, hs2]
        refine WS_cond (t := false) (by simp [s15, h15, s6, h6, s13, h13, s14, h14, s11, h11, s4, h4, hs, hs2]) (fun h => by cases h) (fun _ => ?_)
        refine WS_exit ?_; simp [s15, h15, s6, h6, s13, h13, s14, h14, s11, h11, s4, h4, hs, hs2]
        refine WS_seq (WS_seq (WS_regD [] ?_)); simp [s15, h15, s6, h6, s13, h13, s14, h14, s11, h11, s4, h4, hs, hs2]
        refine callD nm rfl ?_; simp [s15, h15, s6, h6, s13, h13, s14, h14, s11, h11, s4, h4, hs, hs2]
        refine callD c2 rfl ?_; simp [s15, h15, s6, h6, s13, h13, s14, h14, s11, h11, s4, h4, hs, hs2]
        refine ⟨rfl, ?_⟩
        refine WS_cond (t := true) (by simp [s15, h15, s6, h6, s13, h13, s14, h14, s11, h11, s4, h4, hs, hs2]) (fun _ => ?_) (fun h => by cases h)
        refine WS_seq (WS_reg [] ?_); simp [s15, h15, s6, h6, s13, h13, s14, h14, s11, h11, s4, h4, hs, hs2]
        refine WS_ret ?_; simp [s15, h15, s6, h6, s13, h13, s14, h14, s11, h11, s4, h4, hs, hs2]
      · have hs2 : ¬ 0 < ((y.2.2.natAbs : Int) - h).sign := by rw [Int.sign_pos_iff]; omega
        have gg := zgcd (isZ_Z ly.g) (isZ_Z ly.t) (by omega)
        have gl := gcd_len ly.g ly.t
        have on := pone (isZ_of gl) (by omega)
        obtain ⟨G, hG⟩ : ∃ g : Int, g = (Int.gcd y.1 y.2.2 : Int) := ⟨_, rfl⟩
        rw [← hG] at gg on ⊢
        by_cases g1 : G = 1
        · rw [if_neg (by omega)]
          rw [decide_eq_true g1] at on
          have mk := zmake (isZ_Z ly.g) (isZ_Z ly.t) (by omega)
          rw [makeR, if_neg t0] at mk ⊢
          obtain ⟨q, hq⟩ : ∃ q, q = Rat.divInt y.1 y.2.2 := ⟨_, rfl⟩
          rw [← hq] at mk ⊢
          refine WS_seq (WS_seq (WS_reg [] ?_)); simp [s15, h15, s6, h6, s13, h13, s14, h14, s11, h11, s4, h4, hs, hs2]
          refine callK cm ?_; simp [s15, h15, s6, h6, s13, h13, s14, h14, s11, h11, s4, h4, hs, hs2]
          refine WS_cond (t := false) (by simp [s15, h15, s6, h6, s13, h13, s14, h14, s11, h11, s4, h4, hs, hs2]) (fun h => by cases h) (fun _ => ?_)
          refine WS_exit ?_; simp [s15, h15, s6, h6, s13, h13, s14, h14, s11, h11, s4, h4, hs, hs2]
          refine WS_seq (WS_seq (WS_regD [] ?_)); simp [s15, h15, s6, h6, s13, h13, s14, h14, s11, h11, s4, h4, hs, hs2]
          refine callD nm rfl ?_; simp [s15, h15, s6, h6, s13, h13, s14, h14, s11, h11, s4, h4, hs, hs2]
          refine callD c2 rfl ?_; simp [s15, h15, s6, h6, s13, h13, s14, h14, s11, h11, s4, h4, hs, hs2]
          refine callD gg rfl ?_; simp [s15, h15, s6, h6, s13, h13, s14, h14, s11, h11, s4, h4, hs, hs2]
          refine callD on rfl ?_; simp [s15, h15, s6, h6, s13, h13, s14, h14, s11, h11, s4, h4, hs, hs2]
          refine ⟨rfl, ?_⟩
          refine WS_cond (t := false) (by simp [s15, h15, s6, h6, s13, h13, s14, h14, s11, h11, s4, h4, hs, hs2]) (fun h => by cases h) (fun _ => ?_)
          refine WS_skip ?_; simp [s15, h15, s6, h6, s13, h13, s14, h14, s11, h11, s4, h4, hs, hs2]
          refine WS_seq (WS_reg [] ?_); simp [s15, h15, s6, h6, s13, h13, s14, h14, s11, h11, s4, h4, hs, hs2]
          refine callK mk ?_; simp [s15, h15, s6, h6, s13, h13, s14, h14, s11, h11, s4, h4, hs, hs2]
          refine WS_ret ?_; simp [s15, h15, s6, h6, s13, h13, s14, h14, s11, h11, s4, h4, hs, hs2]
        · rw [if_pos (.inr g1)]
          rw [decide_eq_false g1] at on
          refine WS_seq (WS_seq (WS_reg [] ?_)); simp [s15, h15, s6, h6, s13, h13, s14, h14, s11, h11, s4, h4, hs, hs2]
          refine callK cm ?_; simp [s15, h15, s6, h6, s13, h13, s14, h14, s11, h11, s4, h4, hs, hs2]
          refine WS_cond (t := false) (by simp [s15, h15, s6, h6, s13, h13, s14, h14, s11, h11, s4, h4, hs, hs2]) (fun h => by cases h) (fun _ => ?_)
          refine WS_exit ?_; simp [s15, h15, s6, h6, s13, h13, s14, h14, s11, h11, s4, h4, hs, hs2]
          refine WS_seq (WS_seq (WS_regD [] ?_)); simp [s15, h15, s6, h6, s13, h13, s14, h14, s11, h11, s4, h4, hs, hs2]
          refine callD nm rfl ?_; simp [s15, h15, s6, h6, s13, h13, s14, h14, s11, h11, s4, h4, hs, hs2]
          refine callD c2 rfl ?_; simp [s15, h15, s6, h6, s13, h13, s14, h14, s11, h11, s4, h4, hs, hs2]
          refine callD gg rfl ?_; simp [s15, h15, s6, h6, s13, h13, s14, h14, s11, h11, s4, h4, hs, hs2]
          refine callD on rfl ?_; simp [s15, h15, s6, h6, s13, h13, s14, h14, s11, h11, s4, h4, hs, hs2]
          refine ⟨rfl, ?_⟩
          refine WS_cond (t := true) (by simp [s15, h15, s6, h6, s13, h13, s14, h14, s11, h11, s4, h4, hs, hs2]) (fun _ => ?_) (fun h => by cases h)
          refine WS_seq (WS_reg [] ?_); simp [s15, h15, s6, h6, s13, h13, s14, h14, s11, h11, s4, h4, hs, hs2]
          refine WS_ret ?_; simp [s15, h15, s6, h6, s13, h13, s14, h14, s11, h11, s4, h4, hs, hs2]
    · have hs : 0 < (y.1 - h).sign := by rw [Int.sign_pos_iff]; omega
      have y0 : y.1 ≠ 0 := by omega
      have dv := zdiv ⟨n, l, rfl, hl15, hx15⟩ (isZ_Z ly.g) (by omega) y0
      have hq := Nat.le_trans (zlen_ediv x.1 y.1) lx.g
      have mu := zmul (isZ_Z hq) (isZ_Z ly.t) (by omega)
      have ml := zlen_mul (x.1 / y.1) y.2.2
      have lxt := lx.t
      have lyt := ly.t
      have sb := zsub (isZ_Z (k := 2 * k + 2) (z := x.2.2) (by omega)) (isZ_Z (k := 2 * k + 2) (z := x.1 / y.1 * y.2.2) (by omega)) (by omega)
      have nx := fraI_next hI y0
      rw [frun_step (by omega) hf0] at hE
      have wy : ZW (k + 1) (zl y.1) := ⟨zl_dl _, by have := ly.g; rwa [zlen] at this⟩
      obtain ⟨z, hz⟩ : ∃ z, z = (x.1 % y.1, x.2.1 - x.1 / y.1 * y.2.1, x.2.2 - x.1 / y.1 * y.2.2) := ⟨_, rfl⟩
      have hr : z.1.natAbs < y.1.natAbs := by rw [hz]; exact (ediv_natAbs_le x.1 y.1).2 y0
      rw [← hz] at nx hE
      have z1 : x.1 % y.1 = z.1 := by rw [hz]
      have z3 : x.2.2 - x.1 / y.1 * y.2.2 = z.2.2 := by rw [hz]
      rw [z1] at dv
      rw [z3] at sb
      clear hz z1 z3
      refine WS_seq (WS_seq (WS_reg [] ?_)); simp [s15, h15, s6, h6, s13, h13, s14, h14, s11, h11, s4, h4, hs]
      refine callK cm ?_; simp [s15, h15, s6, h6, s13, h13, s14, h14, s11, h11, s4, h4, hs]
      refine WS_cond (t := true) (by simp [s15, h15, s6, h6, s13, h13, s14, h14, s11, h11, s4, h4, hs]) (fun _ => ?_) (fun h => by cases h)
      refine WS_skip ?_; simp [s15, h15, s6, h6, s13, h13, s14, h14, s11, h11, s4, h4, hs]
      refine WS_seq (WS_block (WS_seq (WS_reg [] ?_))); simp [s15, h15, s6, h6, s13, h13, s14, h14, s11, h11, s4, h4, hs]
      refine callK dv ?_; simp [s15, h15, s6, h6, s13, h13, s14, h14, s11, h11, s4, h4, hs]
      refine WS_regD [] ?_; simp [s15, h15, s6, h6, s13, h13, s14, h14, s11, h11, s4, h4, hs]
      refine callD mu rfl ?_; simp [s15, h15, s6, h6, s13, h13, s14, h14, s11, h11, s4, h4, hs]
      refine callD sb rfl ?_; simp [s15, h15, s6, h6, s13, h13, s14, h14, s11, h11, s4, h4, hs]
      refine ⟨rfl, ?_⟩
      refine WS_seq (WS_reg [] ?_); simp [s15, h15, s6, h6, s13, h13, s14, h14, s11, h11, s4, h4, hs]
      refine WS_reg [] ?_; simp [s15, h15, s6, h6, s13, h13, s14, h14, s11, h11, s4, h4, hs]
      refine ⟨⟨y, z, g + 1, zn y.1, zl y.1, by simp, by simp, wy, zi_Z _, by simp [s6], by simp, by simp [s13], by simp, by simp [s14], by simp, nx, hE, by simp [s11], by simp [h11], by simp [s4], by simp [h4]⟩, ?_⟩
      rw [d6, bxM_eq (i := 6) (g := 1) (t := 24) (n := .b (zn z.1)) (l := zl z.1) (by simp), zl, Nm.val_dig (by omega)]
      exact hr

end Go.Vw
set_option linter.unusedVariables false
set_option linter.unusedSimpArgs false
namespace Go.Vw
open Go.Proofs

theorem bezS_35 : bezS 3 5 = 2 := by
  rw [bezS, if_neg (by decide), bezG]
  rw [bez_step (by decide), bez_step (by decide), bez_step (by decide), bez_step (by decide), bez_zero (by decide)]
  decide
theorem crt_8 : crtR 2 3 3 5 = [.pure (Z 8), .pure (.i .i64 0)] := by
  rw [crtR, if_neg (by decide), crtZ, bezS_35]
  rfl
theorem fraY_34 : (fraY 34 101).2.1 = 1 ∧ (fraY 34 101).2.2.2 = 3 := by
  rw [fraY, show hOf 101 = 7 by decide +kernel, frun_step (by decide) (by decide), frun_step (by decide) (by decide), frun_end (by decide)]
  decide
theorem frac_34 : fracR 34 101 = [.pure (Q (Rat.divInt 1 3)), .pure (.i .i64 0)] := by
  obtain ⟨e1, e2⟩ := fraY_34
  rw [fracR, if_neg (by decide), e1, e2, show hOf 101 = 7 by decide +kernel, if_neg (by decide), makeR, if_neg (by decide)]
theorem next_7 : NextIs 7 11 where
  gt := by decide
  two := by decide
  le := by decide
  is := by decide +kernel
  no := by
    intro k h1 h2
    obtain h | h | h : k = 8 ∨ k = 9 ∨ k = 10 := by omega
    all_goals subst h; decide +kernel

attribute [local simp] RunL_cons RunL_nil AOp_none AOp_some acK_v acK_call agK_tt agK_ff agK_tf agK_ft agK_tup agK_i aop aun St.ev St.heap St.put thenQ blockQ scopeQ upd_apply S0 argSlot lowV V.cells V.isAgg V.fits V.part partOk plains St.ret retSV svOf svsOf retQ retP retAll retOne uL_length uL_get? uL_get St.elems retH ownIdx ownAt
attribute [local simp] RunD_none RunD_some RunD_nil RunE_any acD_v acD_call agD_tt agD_ff agD_tf agD_ft agD_tup entsOf svref SO.opds SO.writes SO.makes callEnt pureSV pureOf RV.isOwn
attribute [local simp] abin_add abin_sub abin_mul abin_quo abin_rem abin_eql abin_neq abin_lss abin_leq abin_gtr abin_geq
attribute [local simp] uL_snoc uL_set uL_take uL_drop uL_append uL_replicate uL_nil
attribute [local simp] acK_callG acD_callG St.giv gsSV gvSV retEnts ownEnts SO.still
attribute [local simp] S0G argSlotG givSV retQG retPG retAllG retOneG HObj.width V.scalar trimQ V.byte
attribute [local simp] zv V.fits fillOk fillV Z_eq rv Q_eq
end Go.Vw
set_option linter.unusedVariables false
set_option linter.unusedSimpArgs false
namespace Go.Vw
open Go.Proofs

attribute [local simp] RunL_cons RunL_nil AOp_none AOp_some acK_v acK_call agK_tt agK_ff agK_tf agK_ft agK_tup agK_i aop aun St.ev St.heap St.put thenQ blockQ scopeQ upd_apply S0 argSlot lowV V.cells V.isAgg V.fits V.part partOk plains St.ret retSV svOf svsOf retQ retP retAll retOne uL_length uL_get? uL_get St.elems retH ownIdx ownAt
attribute [local simp] RunD_none RunD_some RunD_nil RunE_any acD_v acD_call agD_tt agD_ff agD_tf agD_ft agD_tup entsOf svref SO.opds SO.writes SO.makes callEnt pureSV pureOf RV.isOwn
attribute [local simp] abin_add abin_sub abin_mul abin_quo abin_rem abin_eql abin_neq abin_lss abin_leq abin_gtr abin_geq
attribute [local simp] uL_snoc uL_set uL_take uL_drop uL_append uL_replicate uL_nil
attribute [local simp] acK_callG acD_callG St.giv gsSV gvSV retEnts ownEnts SO.still
attribute [local simp] S0G argSlotG givSV retQG retPG retAllG retOneG HObj.width V.scalar trimQ V.byte
attribute [local simp] zv V.fits fillOk fillV Z_eq
end Go.Vw
set_option linter.unusedVariables false
set_option linter.unusedSimpArgs false
namespace Go.Vw
open Go.Proofs

theorem near_in {a m : Int} (hm : 0 < m) : nearZ a m + nearZ a m ≤ m ∧ -m < nearZ a m + nearZ a m := by
  have h1 := Int.emod_nonneg a (show m ≠ 0 by omega)
  have h2 := Int.emod_lt_of_pos a hm
  rw [nearZ]
  split <;> omega
theorem few_two {n : Nat} {n1 n2 : Bool} {l1 l2 : List Nat} (h : fewB n [(n1, l1), (n2, l2)] = true) : l1.length ≤ n ∧ l2.length ≤ n := by
  simpa [fewB] using h

attribute [local simp] RunL_cons RunL_nil AOp_none AOp_some acK_v acK_call agK_tt agK_ff agK_tf agK_ft agK_tup agK_i aop aun St.ev St.heap St.put thenQ blockQ scopeQ upd_apply S0 argSlot lowV V.cells V.isAgg V.fits V.part partOk plains St.ret retSV svOf svsOf retQ retP retAll retOne uL_length uL_get? uL_get St.elems retH ownIdx ownAt
attribute [local simp] RunD_none RunD_some RunD_nil RunE_any acD_v acD_call agD_tt agD_ff agD_tf agD_ft agD_tup entsOf svref SO.opds SO.writes SO.makes callEnt pureSV pureOf RV.isOwn
attribute [local simp] abin_add abin_sub abin_mul abin_quo abin_rem abin_eql abin_neq abin_lss abin_leq abin_gtr abin_geq
attribute [local simp] uL_snoc uL_set uL_take uL_drop uL_append uL_replicate uL_nil
attribute [local simp] acK_callG acD_callG St.giv gsSV gvSV retEnts ownEnts SO.still
attribute [local simp] S0G argSlotG givSV retQG retPG retAllG retOneG HObj.width V.scalar trimQ V.byte
attribute [local simp] zv V.fits fillOk fillV Z_eq rv Q_eq
theorem fracR_of {a m : Int} (hm : 0 < m) : fracR a m = [.pure (rv false [] []), .pure (.i .i64 5)] ∨ ∃ q : Rat, fracR a m = [.pure (Q q), .pure (.i .i64 0)] ∧ KeepsR a m q := by
  by_cases hc : hOf m < ((fraY a m).2.2.2.natAbs : Int) ∨ (Int.gcd (fraY a m).2.1 (fraY a m).2.2.2 : Int) ≠ 1
  · left
    rw [fracR, if_neg (by omega), if_pos hc]
  · right
    obtain ⟨t0, hk⟩ := frac_keeps (a := a) hm (by omega) (by omega)
    exact ⟨_, by rw [fracR, if_neg (by omega), if_neg hc, makeR, if_neg t0], hk⟩

end Go.Vw
set_option linter.unusedVariables false
set_option linter.unusedSimpArgs false
namespace Go.Vw
open Go.Proofs

attribute [local simp] RunL_cons RunL_nil AOp_none AOp_some acK_v acK_call agK_tt agK_ff agK_tf agK_ft agK_tup agK_i aop aun St.ev St.heap St.put thenQ blockQ scopeQ upd_apply S0 argSlot lowV V.cells V.isAgg V.fits V.part partOk plains St.ret retSV svOf svsOf retQ retP retAll retOne uL_length uL_get? uL_get St.elems retH ownIdx ownAt
attribute [local simp] RunD_none RunD_some RunD_nil RunE_any acD_v acD_call agD_tt agD_ff agD_tf agD_ft agD_tup entsOf svref SO.opds SO.writes SO.makes callEnt pureSV pureOf RV.isOwn
attribute [local simp] abin_add abin_sub abin_mul abin_quo abin_rem abin_eql abin_neq abin_lss abin_leq abin_gtr abin_geq
attribute [local simp] uL_snoc uL_set uL_take uL_drop uL_append uL_replicate uL_nil
attribute [local simp] acK_callG acD_callG St.giv gsSV gvSV retEnts ownEnts SO.still
attribute [local simp] S0G argSlotG givSV retQG retPG retAllG retOneG HObj.width V.scalar trimQ V.byte
attribute [local simp] zv V.fits fillOk fillV Z_eq
attribute [local simp] rv Q_eq
end Go.Vw
set_option linter.unusedVariables false
set_option linter.unusedSimpArgs false
namespace Go.Vw
open Go.Proofs

def modR (a m : Int) : List RV := if m ≤ 0 then [.pure (.i .i64 0), .pure (.i .i64 1)] else [.pure (.i .i64 (a % m)), .pure (.i .i64 0)]
theorem crt_alt (a m K n : Int) : (a + m * K) % (m * n) = (a + m * (K % n)) % (m * n) := by
  have h := Int.mul_ediv_add_emod K n
  have e : a + m * K = a + m * (K % n) + (m * n) * (K / n) := by grind
  rw [e, Int.add_mul_emod_self_left]

/-- What the document's Fraction keeps at every pass. -/
def FrD (k : Nat) (A B h : Int) (F : (Int × Int × Int) × (Int × Int × Int)) (S : St) : Prop := ∃ (x y : Int × Int × Int) (n : Bool) (l : List Nat), S.σ 13 = .p (.sl (some 2) [.agg [.b n, .sl none (uL l)], .agg [.b (zn x.2.2), .sl none (uL (zl x.2.2))]]) ∧ ZW k l ∧ zi n l = x.1 ∧
  S.σ 14 = .p (.sl (some 2) [.agg [.b (zn y.1), .sl none (uL (zl y.1))], .agg [.b (zn y.2.2), .sl none (uL (zl y.2.2))]]) ∧ FraI A B x y ∧ frun h x y = F ∧ S.σ 11 = .ptr 11 1 0 ∧ S.h 11 = ⟨1, some (.box 24 [.b (zn h), .sl none (uL (zl h))])⟩ ∧
  S.σ 4 = .ptr 4 1 0 ∧ S.h 4 = ⟨1, some (.box 33 [.b false, .sl none [], .sl none []])⟩
def frM (S : St) : Nat := match S.σ 14 with | .p (.sl _ (.agg [_, .sl _ xs] :: _)) => vM xs | _ => 0
theorem frM_eq {S : St} {n : V} {l : List Nat} {w : V} (h : S.σ 14 = .p (.sl (some 2) [.agg [n, .sl none (uL l)], w])) : frM S = Nm.val 18446744073709551616 l := by simp only [frM, h, vM_eq]

attribute [local simp] RunL_cons RunL_nil AOp_none AOp_some acK_v acK_call agK_tt agK_ff agK_tf agK_ft agK_tup agK_i aop aun St.ev St.heap St.put thenQ blockQ scopeQ upd_apply S0 argSlot lowV V.cells V.isAgg V.fits V.part partOk plains St.ret retSV svOf svsOf retQ retP retAll retOne uL_length uL_get? uL_get St.elems retH ownIdx ownAt
attribute [local simp] RunD_none RunD_some RunD_nil RunE_any acD_v acD_call agD_tt agD_ff agD_tf agD_ft agD_tup entsOf svref SO.opds SO.writes SO.makes callEnt pureSV pureOf RV.isOwn
attribute [local simp] abin_add abin_sub abin_mul abin_quo abin_rem abin_eql abin_neq abin_lss abin_leq abin_gtr abin_geq
attribute [local simp] uL_snoc uL_set uL_take uL_drop uL_append uL_replicate uL_nil
attribute [local simp] acK_callG acD_callG St.giv gsSV gvSV retEnts ownEnts SO.still
attribute [local simp] S0G argSlotG givSV retQG retPG retAllG retOneG HObj.width V.scalar trimQ V.byte
attribute [local simp] zv V.fits fillOk fillV Z_eq rv Q_eq
theorem rrest {k : Nat} {v w : V} {x y : Int} (hv : IsZ k v x) (hw : IsZ k w y) (hk : k ≤ 2 ^ 34) : Spec Tryz.prog f_ref04_Rest [v, w] (· = restR x y) := by
  have sg := rsign hw (by omega)
  have dv := fun h => rdivz hv hw hk h
  obtain ⟨n1, l1, rfl, h1, hx⟩ := hv
  obtain ⟨n2, l2, rfl, h2, hy⟩ := hw
  refine spec_at Tryz.func24 ok_ref04_Rest [] rfl (by simp) ?_
  unfold sc_ref04_Rest
  by_cases h0 : y ≤ 0
  · have hs : y.sign ≤ 0 := by rw [Int.sign_nonpos_iff]; exact h0
    rw [restR, if_pos h0]
    refine WS_seq (WS_reg [] ?_); simp [hs, Z_zero]
    refine WS_seq (WS_seq (WS_reg [] ?_)); simp [hs, Z_zero]
    refine callK sg ?_; simp [hs, Z_zero]
    refine WS_cond (t := true) (by simp [hs, Z_zero]) (fun _ => ?_) (fun h => by cases h)
    refine WS_seq (WS_reg [] ?_); simp [hs, Z_zero]
    refine WS_ret ?_; simp [hs, Z_zero]
  · have hs : ¬ y.sign ≤ 0 := by rw [Int.sign_nonpos_iff]; exact h0
    have dv := dv (by omega)
    rw [restR, if_neg h0]
    refine WS_seq (WS_reg [] ?_); simp [hs]
    refine WS_seq (WS_seq (WS_reg [] ?_)); simp [hs]
    refine callK sg ?_; simp [hs]
    refine WS_cond (t := false) (by simp [hs]) (fun h => by cases h) (fun _ => ?_)
    refine WS_skip ?_; simp [hs]
    refine WS_seq (WS_reg [] ?_); simp [hs]
    refine callK dv ?_; simp [hs]
    refine WS_seq (WS_reg [] ?_); simp [hs]
    refine WS_ret ?_; simp [hs]

theorem rnear {k : Nat} {v w : V} {x y : Int} (hv : IsZ k v x) (hw : IsZ k w y) (hk : k ≤ 2 ^ 34) : Spec Tryz.prog f_ref04_Near [v, w] (· = nearR x y) := by
  have rs := rrest hv hw hk
  have q2 := hw.zlen
  by_cases h0 : y ≤ 0
  · rw [restR, if_pos h0] at rs
    rw [nearR, if_pos h0]
    obtain ⟨n1, l1, rfl, h1, hx⟩ := hv
    obtain ⟨n2, l2, rfl, h2, hy⟩ := hw
    refine spec_at Tryz.func26 ok_ref04_Near [] rfl (by simp) ?_
    unfold sc_ref04_Near
    refine WS_seq (WS_reg [] ?_); simp [Z_zero]
    refine WS_seq (WS_reg [] ?_); simp [Z_zero]
    refine callK rs ?_; simp [Z_zero]
    refine WS_seq (WS_seq (WS_reg [] ?_)); simp [Z_zero]
    refine WS_cond (t := true) (by simp [Z_zero]) (fun _ => ?_) (fun h => by cases h)
    refine WS_seq (WS_reg [] ?_); simp [Z_zero]
    refine WS_ret ?_; simp [Z_zero]
  · rw [restR, if_neg h0] at rs
    rw [nearR, if_neg h0]
    have rl := Nat.le_trans (zlen_emod x y (by omega)) q2
    obtain ⟨r, hr⟩ : ∃ r, r = x % y := ⟨_, rfl⟩
    rw [← hr] at rs rl
    have ad := radd (isZ_of rl) (isZ_of rl) (by omega)
    have al : zlen (r + r) ≤ k + 1 := by have := zlen_add r r; omega
    have cm := rcmp (isZ_of al) (hw.mono (show k ≤ k + 1 by omega)) (by omega)
    have sb := rsub (isZ_of rl) hw (by omega)
    obtain ⟨n1, l1, rfl, h1, hx⟩ := hv
    obtain ⟨n2, l2, rfl, h2, hy⟩ := hw
    rw [nearZ, ← hr]
    by_cases hlt : y < r + r
    · have hs : 0 < (r + r - y).sign := by rw [Int.sign_pos_iff]; omega
      rw [if_pos hlt]
      refine spec_at Tryz.func26 ok_ref04_Near [] rfl (by simp) ?_
      unfold sc_ref04_Near
      refine WS_seq (WS_reg [] ?_); simp [hs]
      refine WS_seq (WS_reg [] ?_); simp [hs]
      refine callK rs ?_; simp [hs]
      refine WS_seq (WS_seq (WS_reg [] ?_)); simp [hs]
      refine WS_cond (t := false) (by simp [hs]) (fun h => by cases h) (fun _ => ?_)
      refine WS_skip ?_; simp [hs]
      refine WS_seq (WS_seq (WS_regD [] ?_)); simp [hs]
      refine callD ad rfl ?_; simp [hs]
      refine callD cm rfl ?_; simp [hs]
      refine ⟨rfl, ?_⟩
      refine WS_cond (t := true) (by simp [hs]) (fun _ => ?_) (fun h => by cases h)
      refine WS_reg [] ?_; simp [hs]
      refine callK sb ?_; simp [hs]
      refine WS_seq (WS_reg [] ?_); simp [hs]
      refine WS_ret ?_; simp [hs]
    · have hs : ¬ 0 < (r + r - y).sign := by rw [Int.sign_pos_iff]; omega
      rw [if_neg hlt]
      refine spec_at Tryz.func26 ok_ref04_Near [] rfl (by simp) ?_
      unfold sc_ref04_Near
      refine WS_seq (WS_reg [] ?_); simp [hs]
      refine WS_seq (WS_reg [] ?_); simp [hs]
      refine callK rs ?_; simp [hs]
      refine WS_seq (WS_seq (WS_reg [] ?_)); simp [hs]
      refine WS_cond (t := false) (by simp [hs]) (fun h => by cases h) (fun _ => ?_)
      refine WS_skip ?_; simp [hs]
      refine WS_seq (WS_seq (WS_regD [] ?_)); simp [hs]
      refine callD ad rfl ?_; simp [hs]
      refine callD cm rfl ?_; simp [hs]
      refine ⟨rfl, ?_⟩
      refine WS_cond (t := false) (by simp [hs]) (fun h => by cases h) (fun _ => ?_)
      refine WS_skip ?_; simp [hs]
      refine WS_seq (WS_reg [] ?_); simp [hs]
      refine WS_ret ?_; simp [hs]

theorem pmod {k : Nat} {v : V} {x : Int} (hv : IsZ k v x) (hk : k ≤ 2 ^ 34) (n : Int) (hn1 : -9223372036854775808 ≤ n) (hn2 : n ≤ 9223372036854775807) : Spec Tryz.prog f_prime_Mod [v, .i .i64 n] (· = modR x n) := by
  have o1 := zof n hn1 hn2
  have nl : zlen n ≤ 1 := zlen_small (by omega)
  have rs := prest (hv.mono (show k ≤ k + 1 by omega)) (isZ_of (x := n) (k := k + 1) (by omega)) (by omega)
  by_cases h0 : n ≤ 0
  · rw [restR, if_pos h0] at rs
    rw [modR, if_pos h0]
    obtain ⟨n1, l1, rfl, h1, hx⟩ := hv
    refine spec_at Tryz.func27 ok_prime_Mod [] rfl (by simp) ?_
    unfold sc_prime_Mod
    refine WS_seq (WS_reg [] ?_); simp
    refine WS_seq (WS_regD [] ?_); simp
    refine callD o1 rfl ?_; simp
    refine callD rs rfl ?_; simp
    refine ⟨rfl, ?_⟩
    refine WS_seq (WS_seq (WS_reg [] ?_)); simp
    refine WS_cond (t := true) (by simp) (fun _ => ?_) (fun h => by cases h)
    refine WS_seq (WS_reg [] ?_); simp
    refine WS_ret ?_; simp
  · rw [restR, if_neg h0] at rs
    rw [modR, if_neg h0]
    have r1 := Int.emod_nonneg x (show n ≠ 0 by omega)
    have r2 := Int.emod_lt_of_pos x (show 0 < n by omega)
    have rl := Nat.le_trans (zlen_emod x n (by omega)) nl
    obtain ⟨r, hr⟩ : ∃ r, r = x % n := ⟨_, rfl⟩
    rw [← hr] at rs r1 r2 rl ⊢
    have sm := zsmall (isZ_of rl) (by omega)
    rw [smallR, if_pos (by omega)] at sm
    obtain ⟨n1, l1, rfl, h1, hx⟩ := hv
    refine spec_at Tryz.func27 ok_prime_Mod [] rfl (by simp) ?_
    unfold sc_prime_Mod
    refine WS_seq (WS_reg [] ?_); simp
    refine WS_seq (WS_regD [] ?_); simp
    refine callD o1 rfl ?_; simp
    refine callD rs rfl ?_; simp
    refine ⟨rfl, ?_⟩
    refine WS_seq (WS_seq (WS_reg [] ?_)); simp
    refine WS_cond (t := false) (by simp) (fun h => by cases h) (fun _ => ?_)
    refine WS_skip ?_; simp
    refine WS_seq (WS_reg [] ?_); simp
    refine callK sm ?_; simp
    refine WS_seq (WS_reg [] ?_); simp
    refine WS_ret ?_; simp
theorem rmod {k : Nat} {v : V} {x : Int} (hv : IsZ k v x) (hk : k ≤ 2 ^ 33) (n : Int) (hn1 : -9223372036854775808 ≤ n) (hn2 : n ≤ 9223372036854775807) : Spec Tryz.prog f_ref04_Mod [v, .i .i64 n] (· = modR x n) := by
  have o1 := rof n hn1 hn2
  have nl : zlen n ≤ 1 := zlen_small (by omega)
  have rs := rrest (hv.mono (show k ≤ k + 1 by omega)) (isZ_of (x := n) (k := k + 1) (by omega)) (by omega)
  by_cases h0 : n ≤ 0
  · rw [restR, if_pos h0] at rs
    rw [modR, if_pos h0]
    obtain ⟨n1, l1, rfl, h1, hx⟩ := hv
    refine spec_at Tryz.func28 ok_ref04_Mod [] rfl (by simp) ?_
    unfold sc_ref04_Mod
    refine WS_seq (WS_reg [] ?_); simp
    refine WS_seq (WS_regD [] ?_); simp
    refine callD o1 rfl ?_; simp
    refine callD rs rfl ?_; simp
    refine ⟨rfl, ?_⟩
    refine WS_seq (WS_seq (WS_reg [] ?_)); simp
    refine WS_cond (t := true) (by simp) (fun _ => ?_) (fun h => by cases h)
    refine WS_seq (WS_reg [] ?_); simp
    refine WS_ret ?_; simp
  · rw [restR, if_neg h0] at rs
    rw [modR, if_neg h0]
    have r1 := Int.emod_nonneg x (show n ≠ 0 by omega)
    have r2 := Int.emod_lt_of_pos x (show 0 < n by omega)
    have rl := Nat.le_trans (zlen_emod x n (by omega)) nl
    obtain ⟨r, hr⟩ : ∃ r, r = x % n := ⟨_, rfl⟩
    rw [← hr] at rs r1 r2 rl ⊢
    have sm := rsmall (isZ_of rl) (by omega)
    rw [smallR, if_pos (by omega)] at sm
    obtain ⟨n1, l1, rfl, h1, hx⟩ := hv
    refine spec_at Tryz.func28 ok_ref04_Mod [] rfl (by simp) ?_
    unfold sc_ref04_Mod
    refine WS_seq (WS_reg [] ?_); simp
    refine WS_seq (WS_regD [] ?_); simp
    refine callD o1 rfl ?_; simp
    refine callD rs rfl ?_; simp
    refine ⟨rfl, ?_⟩
    refine WS_seq (WS_seq (WS_reg [] ?_)); simp
    refine WS_cond (t := false) (by simp) (fun h => by cases h) (fun _ => ?_)
    refine WS_skip ?_; simp
    refine WS_seq (WS_reg [] ?_); simp
    refine callK sm ?_; simp
    refine WS_seq (WS_reg [] ?_); simp
    refine WS_ret ?_; simp

set_option maxHeartbeats 1000000 in
theorem rcrt {k : Nat} {v1 v2 v3 v4 : V} {a m b n : Int} (ha : IsZ k v1 a) (hm : IsZ k v2 m) (hb : IsZ k v3 b) (hn : IsZ k v4 n) (hk : k ≤ 2 ^ 20) : Spec Tryz.prog f_ref04_Crt [v1, v2, v3, v4] (· = crtR a m b n) := by
  have bz := rbezout hm hn (by omega)
  rw [bezR] at bz
  have qa := ha.zlen
  have qm := hm.zlen
  have qb := hb.zlen
  have qn := hn.zlen
  have gl := gcd_len qm qn
  have sl := bezS_len (a := m) (b := n) qn
  have sm := rsign hm (by omega)
  have sn := rsign hn (by omega)
  have o1 := rof 1 (by omega) (by omega)
  have z1 := zlen_one
  have cm := rcmp (isZ_of (x := (Int.gcd m n : Int)) (k := k + 1) (by omega)) (isZ_of (x := 1) (k := k + 1) (by omega)) (by omega)
  have sb := rsub hb ha (by omega)
  have l1 := zlen_sub b a
  obtain ⟨S, hS⟩ : ∃ s, s = bezS m n := ⟨_, rfl⟩
  rw [← hS] at bz sl
  have mu := rmul (isZ_of (x := b - a) (k := 2 ^ 22) (by omega)) (isZ_of (x := S) (k := 2 ^ 22) (by omega)) (by omega)
  have l2 := zlen_mul (b - a) S
  obtain ⟨G, hG⟩ : ∃ g : Int, g = (Int.gcd m n : Int) := ⟨_, rfl⟩
  have hR : crtR a m b n = if m ≤ 0 ∨ n ≤ 0 ∨ G ≠ 1 then [.pure (Z 0), .pure (.i .i64 1)] else [.pure (Z ((a + m * ((b - a) * S)) % (m * n))), .pure (.i .i64 0)] := by rw [crtR, crtZ, hG, hS, crt_alt a m ((b - a) * bezS m n) n]
  rw [hR]
  rw [← hG] at bz gl cm
  clear hR hS hG
  by_cases m0 : m ≤ 0
  · have hs : m.sign ≤ 0 := by rw [Int.sign_nonpos_iff]; exact m0
    rw [if_pos (.inl m0)]
    obtain ⟨n1, d1, rfl, h1, _⟩ := ha
    obtain ⟨n2, d2, rfl, h2, _⟩ := hm
    obtain ⟨n3, d3, rfl, h3, _⟩ := hb
    obtain ⟨n4, d4, rfl, h4, _⟩ := hn
    refine spec_at Tryz.func11 ok_ref04_Crt [] rfl (by simp) ?_
    unfold sc_ref04_Crt
    refine WS_seq (WS_reg [] ?_); simp [hs, Z_zero]
    refine WS_seq (WS_reg [] ?_); simp [hs, Z_zero]
    refine callK bz ?_; simp [hs, Z_zero]
    refine WS_seq (WS_seq (WS_regD [] ?_)); simp [hs, Z_zero]
    refine callD sm rfl ?_; simp [hs, Z_zero]
    refine ⟨rfl, ?_⟩
    refine WS_cond (t := true) (by simp [hs, Z_zero]) (fun _ => ?_) (fun h => by cases h)
    refine WS_seq (WS_reg [] ?_); simp [hs, Z_zero]
    refine WS_ret ?_; simp [hs, Z_zero]
  · have hs : ¬ m.sign ≤ 0 := by rw [Int.sign_nonpos_iff]; exact m0
    by_cases n0 : n ≤ 0
    · have hs2 : n.sign ≤ 0 := by rw [Int.sign_nonpos_iff]; exact n0
      rw [if_pos (.inr (.inl n0))]
      obtain ⟨n1, d1, rfl, h1, _⟩ := ha
      obtain ⟨n2, d2, rfl, h2, _⟩ := hm
      obtain ⟨n3, d3, rfl, h3, _⟩ := hb
      obtain ⟨n4, d4, rfl, h4, _⟩ := hn
      refine spec_at Tryz.func11 ok_ref04_Crt [] rfl (by simp) ?_
      unfold sc_ref04_Crt
      refine WS_seq (WS_reg [] ?_); simp [hs, hs2, Z_zero]
      refine WS_seq (WS_reg [] ?_); simp [hs, hs2, Z_zero]
      refine callK bz ?_; simp [hs, hs2, Z_zero]
      refine WS_seq (WS_seq (WS_regD [] ?_)); simp [hs, hs2, Z_zero]
      refine callD sm rfl ?_; simp [hs, hs2, Z_zero]
      refine callD sn rfl ?_; simp [hs, hs2, Z_zero]
      refine ⟨rfl, ?_⟩
      refine WS_cond (t := true) (by simp [hs, hs2, Z_zero]) (fun _ => ?_) (fun h => by cases h)
      refine WS_seq (WS_reg [] ?_); simp [hs, hs2, Z_zero]
      refine WS_ret ?_; simp [hs, hs2, Z_zero]
    · have hs2 : ¬ n.sign ≤ 0 := by rw [Int.sign_nonpos_iff]; exact n0
      by_cases g1 : G = 1
      · rw [if_neg (by omega)]
        rw [g1, Int.sub_self, Int.sign_zero] at cm
        rw [g1] at bz
        obtain ⟨K, hK⟩ : ∃ r, r = (b - a) * S := ⟨_, rfl⟩
        rw [← hK] at mu l2 ⊢
        have m1 := rmul (hm.mono (show k ≤ 2 ^ 23 by omega)) (isZ_of (x := K) (k := 2 ^ 23) (by omega)) (by omega)
        have l4 := zlen_mul m K
        have ad := radd (ha.mono (show k ≤ 2 ^ 24 by omega)) (isZ_of (x := m * K) (k := 2 ^ 24) (by omega)) (by omega)
        have l5 := zlen_add a (m * K)
        have mn := rmul hm hn (by omega)
        have l6 := zlen_mul m n
        have r2 := rrest (isZ_of (x := a + m * K) (k := 2 ^ 25) (by omega)) (isZ_of (x := m * n) (k := 2 ^ 25) (by omega)) (by omega)
        have mnp : ¬ m * n ≤ 0 := by have := Int.mul_pos (show 0 < m by omega) (show 0 < n by omega); omega
        rw [restR, if_neg mnp] at r2
        obtain ⟨n1, d1, rfl, h1, _⟩ := ha
        obtain ⟨n2, d2, rfl, h2, _⟩ := hm
        obtain ⟨n3, d3, rfl, h3, _⟩ := hb
        obtain ⟨n4, d4, rfl, h4, _⟩ := hn
        refine spec_at Tryz.func11 ok_ref04_Crt [] rfl (by simp) ?_
        unfold sc_ref04_Crt
        refine WS_seq (WS_reg [] ?_); simp [hs, hs2]
        refine WS_seq (WS_reg [] ?_); simp [hs, hs2]
        refine callK bz ?_; simp [hs, hs2]
        refine WS_seq (WS_seq (WS_regD [] ?_)); simp [hs, hs2]
        refine callD sm rfl ?_; simp [hs, hs2]
        refine callD sn rfl ?_; simp [hs, hs2]
        refine callD o1 rfl ?_; simp [hs, hs2]
        refine callD cm rfl ?_; simp [hs, hs2]
        refine ⟨rfl, ?_⟩
        refine WS_cond (t := false) (by simp [hs, hs2]) (fun h => by cases h) (fun _ => ?_)
        refine WS_skip ?_; simp [hs, hs2]
        refine WS_seq (WS_regD [] ?_); simp [hs, hs2]
        refine callD sb rfl ?_; simp [hs, hs2]
        refine callD mu rfl ?_; simp [hs, hs2]
        refine ⟨rfl, ?_⟩
        refine WS_seq (WS_regD [] ?_); simp [hs, hs2]
        refine callD m1 rfl ?_; simp [hs, hs2]
        refine callD ad rfl ?_; simp [hs, hs2]
        refine ⟨rfl, ?_⟩
        refine WS_seq (WS_regD [] ?_); simp [hs, hs2]
        refine callD mn rfl ?_; simp [hs, hs2]
        refine callD r2 rfl ?_; simp [hs, hs2]
        refine ⟨rfl, ?_⟩
        refine WS_ret ?_; simp [hs, hs2]
      · rw [if_pos (.inr (.inr g1))]
        have hs3 : ¬ (G - 1).sign = 0 := by rw [Int.sign_eq_zero_iff_zero]; omega
        obtain ⟨n1, d1, rfl, h1, _⟩ := ha
        obtain ⟨n2, d2, rfl, h2, _⟩ := hm
        obtain ⟨n3, d3, rfl, h3, _⟩ := hb
        obtain ⟨n4, d4, rfl, h4, _⟩ := hn
        refine spec_at Tryz.func11 ok_ref04_Crt [] rfl (by simp) ?_
        unfold sc_ref04_Crt
        refine WS_seq (WS_reg [] ?_); simp [hs, hs2, hs3, Z_zero]
        refine WS_seq (WS_reg [] ?_); simp [hs, hs2, hs3, Z_zero]
        refine callK bz ?_; simp [hs, hs2, hs3, Z_zero]
        refine WS_seq (WS_seq (WS_regD [] ?_)); simp [hs, hs2, hs3, Z_zero]
        refine callD sm rfl ?_; simp [hs, hs2, hs3, Z_zero]
        refine callD sn rfl ?_; simp [hs, hs2, hs3, Z_zero]
        refine callD o1 rfl ?_; simp [hs, hs2, hs3, Z_zero]
        refine callD cm rfl ?_; simp [hs, hs2, hs3, Z_zero]
        refine ⟨rfl, ?_⟩
        refine WS_cond (t := true) (by simp [hs, hs2, hs3, Z_zero]) (fun _ => ?_) (fun h => by cases h)
        refine WS_seq (WS_reg [] ?_); simp [hs, hs2, hs3, Z_zero]
        refine WS_ret ?_; simp [hs, hs2, hs3, Z_zero]

set_option maxHeartbeats 1000000 in
theorem rfrac {k : Nat} {v w : V} {a m : Int} (hv : IsZ k v a) (hw : IsZ k w m) (hk : k ≤ 3000) : Spec Tryz.prog f_ref04_Fraction [v, w] (· = fracR a m) := by
  have rs := rrest hv hw (by omega)
  have qm := hw.zlen
  by_cases h0 : m ≤ 0
  · rw [restR, if_pos h0] at rs
    rw [fracR, if_pos h0]
    obtain ⟨n1, l1, rfl, h1, _⟩ := hv
    obtain ⟨n2, l2, rfl, h2, _⟩ := hw
    refine spec_at Tryz.func14 ok_ref04_Fraction [] rfl (by simp) ?_
    unfold sc_ref04_Fraction
    refine WS_seq (WS_reg [] ?_); simp
    refine WS_seq (WS_reg [] ?_); simp
    refine callK rs ?_; simp
    refine WS_seq (WS_seq (WS_reg [] ?_)); simp
    refine WS_cond (t := true) (by simp) (fun _ => ?_) (fun h => by cases h)
    refine WS_seq (WS_reg [] ?_); simp
    refine WS_ret ?_; simp
  · have hm : 0 < m := by omega
    obtain ⟨hf0, hf1, -, hf2⟩ := hOf_facts hm
    have rl := zlen_emod a m (by omega)
    rw [restR, if_neg h0] at rs
    rw [fracR, if_neg h0]
    have o0 := rof 0 (by omega) (by omega)
    have o1 := rof 1 (by omega) (by omega)
    have o2 := rof 2 (by omega) (by omega)
    have e0 : zn 0 = false := by decide
    have e1 : zn 1 = false := by decide
    have sb := rsub (hw.mono (show k ≤ k + 1 by omega)) (isZ_Z (z := 1) (k := k + 1) (by have := zlen_one; omega)) (by omega)
    have l1 := zlen_sub m 1
    have l1' := zlen_one
    have dv := rdivz (isZ_Z (z := m - 1) (k := k + 2) (by omega)) (isZ_Z (z := 2) (k := k + 2) (by have := zlen_small (x := 2) (by decide); omega)) (by omega) (by omega)
    have l2 := zlen_ediv (m - 1) 2
    have rt := rroot (isZ_Z (z := (m - 1) / 2) (k := k + 2) (by omega)) (by omega) 2 (by omega) (by omega)
    have hp : 0 ≤ (m - 1) / 2 := by omega
    rw [rootR, if_neg (by omega)] at rt
    have hh : (iroot ((m - 1) / 2).toNat (2 : Int).toNat : Int) = hOf m := rfl
    rw [hh] at rt
    have hl : zlen (hOf m) ≤ k := Nat.le_trans (zlen_le (by omega)) qm
    have hB0 := Int.emod_nonneg a (show m ≠ 0 by omega)
    have hBm := Int.emod_lt_of_pos a hm
    have hF : fraY a m = frun (hOf m) (m, 1, 0) (a % m, 0, 1) := rfl
    obtain ⟨F, hFe⟩ : ∃ F, F = fraY a m := ⟨_, rfl⟩
    rw [← hFe] at hF ⊢
    obtain ⟨h, hhe⟩ : ∃ h, h = hOf m := ⟨_, rfl⟩
    rw [← hhe] at rt hl hF hf0 hf1 hf2 ⊢
    obtain ⟨B, hBe⟩ : ∃ B, B = a % m := ⟨_, rfl⟩
    rw [← hBe] at rs rl hB0 hBm hF
    have hbl : zlen B ≤ k := Nat.le_trans rl qm
    have hI := fraI_first (A := m) (B := B) (by omega) hB0 hBm
    obtain ⟨c1, hc1⟩ : ∃ c, c = (m - 1) % 2 := ⟨_, rfl⟩
    rw [← hc1] at dv
    obtain ⟨c2, hc2⟩ : ∃ c, c = (m - 1) / 2 := ⟨_, rfl⟩
    rw [← hc2] at dv rt
    obtain ⟨c3, hc3⟩ : ∃ c, c = m - 1 := ⟨_, rfl⟩
    rw [← hc3] at dv sb
    clear hFe hhe hBe hc1 hc2 hp l2 l1 hc3 hh
    have hmz : zlen m ≤ k := qm
    obtain ⟨n1, d1, rfl, h1, _⟩ := hv
    obtain ⟨n2, d2, rfl, h2, hd2⟩ := hw
    refine spec_at Tryz.func14 ok_ref04_Fraction [] rfl (by simp) ?_
    unfold sc_ref04_Fraction
    refine WS_seq (WS_reg [] ?_); simp
    refine WS_seq (WS_reg [] ?_); simp
    refine callK rs ?_; simp
    refine WS_seq (WS_seq (WS_reg [] ?_)); simp
    refine WS_cond (t := false) (by simp) (fun h => by cases h) (fun _ => ?_)
    refine WS_skip ?_; simp
    refine WS_seq (WS_regD [] ?_); simp
    refine callD o1 rfl ?_; simp
    refine callD sb rfl ?_; simp
    refine callD o2 rfl ?_; simp
    refine callD dv rfl ?_; simp
    refine ⟨rfl, ?_⟩
    refine WS_seq (WS_reg [] ?_); simp
    refine callK rt ?_; simp
    refine WS_seq (WS_regD [] ?_); simp
    refine callD o0 rfl ?_; simp
    refine ⟨rfl, ?_⟩
    refine WS_seq (WS_regD [] ?_); simp
    refine callD o1 rfl ?_; simp
    refine ⟨rfl, ?_⟩
    refine WS_seq (WS_block ?_)
    refine WS_loop (FrD (k + 1) m B h F) frM ⟨(m, 1, 0), (B, 0, 1), n2, d2, rfl, h2.mono (by omega), hd2, rfl, hI, hF.symm, rfl, rfl, rfl, rfl⟩ ?_
    rintro S ⟨x, y, n, l, s13, hl15, hx15, s14, hI, hE, s11, h11, s4, h4⟩
    have d14 := frM_eq s14
    rw [zl, Nm.val_dig (by omega)] at d14
    obtain ⟨lx, ly⟩ := bezI_len hI.b hmz hbl (by omega) hB0
    have cm := rcmp (isZ_Z ly.g) (isZ_Z (z := h) (k := k + 1) (by omega)) (by omega)
    have py := hI.b.py
    by_cases hle : y.1 ≤ h
    · have hs : ¬ 0 < (y.1 - h).sign := by rw [Int.sign_pos_iff]; omega
      rw [frun_end hle] at hE
      subst hE
      simp only at *
      have t0 := hI.t0
      have nm := rabs (isZ_Z ly.t) (by omega)
      have tl : zlen (y.2.2.natAbs : Int) ≤ k + 1 := Nat.le_trans (zlen_le (by omega)) ly.t
      have c2 := rcmp (isZ_Z tl) (isZ_Z (z := h) (k := k + 1) (by omega)) (by omega)
      by_cases hth : h < (y.2.2.natAbs : Int)
      · have hs2 : 0 < ((y.2.2.natAbs : Int) - h).sign := by rw [Int.sign_pos_iff]; omega
        rw [if_pos (.inl hth)]
        refine WS_seq (WS_seq (WS_regD [] ?_)); simp [s13, s14, s11, h11, s4, h4, hs, hs2]
        refine callD cm rfl ?_; simp [s13, s14, s11, h11, s4, h4, hs, hs2]
        refine ⟨rfl, ?_⟩
        refine WS_cond (t := false) (by simp [s13, s14, s11, h11, s4, h4, hs, hs2]) (fun h => by cases h) (fun _ => ?_)
        refine WS_exit ?_; simp [s13, s14, s11, h11, s4, h4, hs, hs2]
        refine WS_seq (WS_seq (WS_regD [] ?_)); simp [s13, s14, s11, h11, s4, h4, hs, hs2]
        refine callD nm rfl ?_; simp [s13, s14, s11, h11, s4, h4, hs, hs2]
        refine callD c2 rfl ?_; simp [s13, s14, s11, h11, s4, h4, hs, hs2]
        refine ⟨rfl, ?_⟩
        refine WS_cond (t := true) (by simp [s13, s14, s11, h11, s4, h4, hs, hs2]) (fun _ => ?_) (fun h => by cases h)
        refine WS_seq (WS_reg [] ?_); simp [s13, s14, s11, h11, s4, h4, hs, hs2]
        refine WS_ret ?_; simp [s13, s14, s11, h11, s4, h4, hs, hs2]
      · have hs2 : ¬ 0 < ((y.2.2.natAbs : Int) - h).sign := by rw [Int.sign_pos_iff]; omega
        have gg := rgcd (isZ_Z ly.g) (isZ_Z ly.t) (by omega)
        have gl := gcd_len ly.g ly.t
        have c3 := rcmp (isZ_of gl) (isZ_of (x := 1) (k := k + 1) (by omega)) (by omega)
        obtain ⟨G, hG⟩ : ∃ g : Int, g = (Int.gcd y.1 y.2.2 : Int) := ⟨_, rfl⟩
        rw [← hG] at gg c3 ⊢
        by_cases g1 : G = 1
        · rw [if_neg (by omega)]
          rw [g1, Int.sub_self, Int.sign_zero] at c3
          rw [g1] at gg
          have mk := rmake (isZ_Z ly.g) (isZ_Z ly.t) (by omega)
          rw [makeR, if_neg t0] at mk ⊢
          obtain ⟨q, hq⟩ : ∃ q, q = Rat.divInt y.1 y.2.2 := ⟨_, rfl⟩
          rw [← hq] at mk ⊢
          refine WS_seq (WS_seq (WS_regD [] ?_)); simp [s13, s14, s11, h11, s4, h4, hs, hs2]
          refine callD cm rfl ?_; simp [s13, s14, s11, h11, s4, h4, hs, hs2]
          refine ⟨rfl, ?_⟩
          refine WS_cond (t := false) (by simp [s13, s14, s11, h11, s4, h4, hs, hs2]) (fun h => by cases h) (fun _ => ?_)
          refine WS_exit ?_; simp [s13, s14, s11, h11, s4, h4, hs, hs2]
          refine WS_seq (WS_seq (WS_regD [] ?_)); simp [s13, s14, s11, h11, s4, h4, hs, hs2]
          refine callD nm rfl ?_; simp [s13, s14, s11, h11, s4, h4, hs, hs2]
          refine callD c2 rfl ?_; simp [s13, s14, s11, h11, s4, h4, hs, hs2]
          refine callD gg rfl ?_; simp [s13, s14, s11, h11, s4, h4, hs, hs2]
          refine callD o1 rfl ?_; simp [s13, s14, s11, h11, s4, h4, hs, hs2]
          refine callD c3 rfl ?_; simp [s13, s14, s11, h11, s4, h4, hs, hs2]
          refine ⟨rfl, ?_⟩
          refine WS_cond (t := false) (by simp [s13, s14, s11, h11, s4, h4, hs, hs2]) (fun h => by cases h) (fun _ => ?_)
          refine WS_skip ?_; simp [s13, s14, s11, h11, s4, h4, hs, hs2]
          refine WS_seq (WS_regD [] ?_); simp [s13, s14, s11, h11, s4, h4, hs, hs2]
          refine callD mk rfl ?_; simp [s13, s14, s11, h11, s4, h4, hs, hs2]
          refine ⟨rfl, ?_⟩
          refine WS_ret ?_; simp [s13, s14, s11, h11, s4, h4, hs, hs2]
        · rw [if_pos (.inr g1)]
          have hs3 : ¬ (G - 1).sign = 0 := by rw [Int.sign_eq_zero_iff_zero]; omega
          refine WS_seq (WS_seq (WS_regD [] ?_)); simp [s13, s14, s11, h11, s4, h4, hs, hs2, hs3]
          refine callD cm rfl ?_; simp [s13, s14, s11, h11, s4, h4, hs, hs2, hs3]
          refine ⟨rfl, ?_⟩
          refine WS_cond (t := false) (by simp [s13, s14, s11, h11, s4, h4, hs, hs2, hs3]) (fun h => by cases h) (fun _ => ?_)
          refine WS_exit ?_; simp [s13, s14, s11, h11, s4, h4, hs, hs2, hs3]
          refine WS_seq (WS_seq (WS_regD [] ?_)); simp [s13, s14, s11, h11, s4, h4, hs, hs2, hs3]
          refine callD nm rfl ?_; simp [s13, s14, s11, h11, s4, h4, hs, hs2, hs3]
          refine callD c2 rfl ?_; simp [s13, s14, s11, h11, s4, h4, hs, hs2, hs3]
          refine callD gg rfl ?_; simp [s13, s14, s11, h11, s4, h4, hs, hs2, hs3]
          refine callD o1 rfl ?_; simp [s13, s14, s11, h11, s4, h4, hs, hs2, hs3]
          refine callD c3 rfl ?_; simp [s13, s14, s11, h11, s4, h4, hs, hs2, hs3]
          refine ⟨rfl, ?_⟩
          refine WS_cond (t := true) (by simp [s13, s14, s11, h11, s4, h4, hs, hs2, hs3]) (fun _ => ?_) (fun h => by cases h)
          refine WS_seq (WS_reg [] ?_); simp [s13, s14, s11, h11, s4, h4, hs, hs2, hs3]
          refine WS_ret ?_; simp [s13, s14, s11, h11, s4, h4, hs, hs2, hs3]
    · have hs : 0 < (y.1 - h).sign := by rw [Int.sign_pos_iff]; omega
      have y0 : y.1 ≠ 0 := by omega
      have dv := rdivz ⟨n, l, rfl, hl15, hx15⟩ (isZ_Z ly.g) (by omega) y0
      have hq := Nat.le_trans (zlen_ediv x.1 y.1) lx.g
      have mu := rmul (isZ_Z hq) (isZ_Z ly.t) (by omega)
      have ml := zlen_mul (x.1 / y.1) y.2.2
      have lxt := lx.t
      have lyt := ly.t
      have sb := rsub (isZ_Z (k := 2 * k + 2) (z := x.2.2) (by omega)) (isZ_Z (k := 2 * k + 2) (z := x.1 / y.1 * y.2.2) (by omega)) (by omega)
      have nx := fraI_next hI y0
      rw [frun_step (by omega) hf0] at hE
      have wy : ZW (k + 1) (zl y.1) := ⟨zl_dl _, by have := ly.g; rwa [zlen] at this⟩
      obtain ⟨z, hz⟩ : ∃ z, z = (x.1 % y.1, x.2.1 - x.1 / y.1 * y.2.1, x.2.2 - x.1 / y.1 * y.2.2) := ⟨_, rfl⟩
      have hr : z.1.natAbs < y.1.natAbs := by rw [hz]; exact (ediv_natAbs_le x.1 y.1).2 y0
      rw [← hz] at nx hE
      have z1 : x.1 % y.1 = z.1 := by rw [hz]
      have z3 : x.2.2 - x.1 / y.1 * y.2.2 = z.2.2 := by rw [hz]
      rw [z1] at dv
      rw [z3] at sb
      clear hz z1 z3
      refine WS_seq (WS_seq (WS_regD [] ?_)); simp [s13, s14, s11, h11, s4, h4, hs]
      refine callD cm rfl ?_; simp [s13, s14, s11, h11, s4, h4, hs]
      refine ⟨rfl, ?_⟩
      refine WS_cond (t := true) (by simp [s13, s14, s11, h11, s4, h4, hs]) (fun _ => ?_) (fun h => by cases h)
      refine WS_skip ?_; simp [s13, s14, s11, h11, s4, h4, hs]
      refine WS_block (WS_seq (WS_regD [] ?_)); simp [s13, s14, s11, h11, s4, h4, hs]
      refine callD dv rfl ?_; simp [s13, s14, s11, h11, s4, h4, hs]
      refine ⟨rfl, ?_⟩
      refine WS_seq (WS_regD [] ?_); simp [s13, s14, s11, h11, s4, h4, hs]
      refine callD mu rfl ?_; simp [s13, s14, s11, h11, s4, h4, hs]
      refine callD sb rfl ?_; simp [s13, s14, s11, h11, s4, h4, hs]
      refine ⟨rfl, ?_⟩
      refine WS_seq (WS_reg [] ?_); simp [s13, s14, s11, h11, s4, h4, hs]
      refine WS_reg [] ?_; simp [s13, s14, s11, h11, s4, h4, hs]
      refine ⟨⟨y, z, zn y.1, zl y.1, by simp [s14], wy, zi_Z _, by simp, nx, hE, by simp [s11], by simp [h11], by simp [s4], by simp [h4]⟩, ?_⟩
      rw [d14, frM_eq (n := .b (zn z.1)) (l := zl z.1) (w := .agg [.b (zn z.2.2), .sl none (uL (zl z.2.2))]) (by simp), zl, Nm.val_dig (by omega)]
      exact hr
end Go.Vw
set_option linter.unusedVariables false
set_option linter.unusedSimpArgs false
namespace Go.Vw
open Go.Proofs

theorem keeps_len {a m : Int} {q : Rat} {k : Nat} (h : KeepsR a m q) (hm : zlen m ≤ k) : QL k q := by
  obtain ⟨k1, k2, k3⟩ := h
  have np : ∀ x : Int, 2 * (x * x) < m → zlen x ≤ k := fun x hx => by
    refine Nat.le_trans (zlen_le ?_) hm
    have := Int.natAbs_mul_self' x
    have h3 : (x.natAbs : Int) ≤ (x.natAbs : Int) * (x.natAbs : Int) := by
      rcases Nat.eq_zero_or_pos x.natAbs with h | h
      · rw [h]; omega
      · have := Nat.mul_le_mul_right x.natAbs h
        rw [← Int.natCast_mul]; omega
    omega
  exact ⟨np _ k3, np _ k2⟩
theorem few_four {n : Nat} {n1 n2 n3 n4 : Bool} {l1 l2 l3 l4 : List Nat} (h : fewB n [(n1, l1), (n2, l2), (n3, l3), (n4, l4)] = true) : l1.length ≤ n ∧ l2.length ≤ n ∧ l3.length ≤ n ∧ l4.length ≤ n := by
  simpa [fewB] using h

attribute [local simp] RunL_cons RunL_nil AOp_none AOp_some acK_v acK_call agK_tt agK_ff agK_tf agK_ft agK_tup agK_i aop aun St.ev St.heap St.put thenQ blockQ scopeQ upd_apply S0 argSlot lowV V.cells V.isAgg V.fits V.part partOk plains St.ret retSV svOf svsOf retQ retP retAll retOne uL_length uL_get? uL_get St.elems retH ownIdx ownAt
attribute [local simp] RunD_none RunD_some RunD_nil RunE_any acD_v acD_call agD_tt agD_ff agD_tf agD_ft agD_tup entsOf svref SO.opds SO.writes SO.makes callEnt pureSV pureOf RV.isOwn
attribute [local simp] abin_add abin_sub abin_mul abin_quo abin_rem abin_eql abin_neq abin_lss abin_leq abin_gtr abin_geq
attribute [local simp] uL_snoc uL_set uL_take uL_drop uL_append uL_replicate uL_nil
attribute [local simp] acK_callG acD_callG St.giv gsSV gvSV retEnts ownEnts SO.still
attribute [local simp] S0G argSlotG givSV retQG retPG retAllG retOneG HObj.width V.scalar trimQ V.byte
attribute [local simp] zv V.fits fillOk fillV Z_eq
attribute [local simp] rv Q_eq
end Go.Vw

