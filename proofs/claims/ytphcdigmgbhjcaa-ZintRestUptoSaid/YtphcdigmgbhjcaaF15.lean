/- nat.Mul: the product in halves; the statement NatMultiplies. -/
import Derived.Test.YtphcdigmgbhjcaaF14
set_option linter.unusedVariables false
set_option linter.unusedSimpArgs false
namespace Go.Vw
open Go.Proofs

attribute [local simp] RunL_cons RunL_nil AOp_none AOp_some acK_v acK_call agK_tt agK_ff agK_tf agK_ft agK_tup agK_i aop aun St.ev St.heap St.put thenQ blockQ upd_apply S0 argSlot lowV V.cells V.isAgg V.fits V.part partOk plains St.ret retSV svOf svsOf retQ retP retAll retOne uL_length uL_get? uL_get St.elems retH ownIdx ownAt
attribute [local simp] RunD_none RunD_some RunD_nil RunE_any acD_v acD_call agD_tt agD_ff agD_tf agD_ft agD_tup entsOf svref SO.opds SO.writes SO.makes callEnt pureSV pureOf RV.isOwn
attribute [local simp] abin_add abin_sub abin_mul abin_quo abin_rem abin_eql abin_neq abin_lss abin_leq abin_gtr abin_geq
attribute [local simp] uL_snoc uL_set uL_take uL_drop uL_append uL_replicate uL_nil
attribute [local simp] acK_callG acD_callG St.giv gsSV gvSV retEnts ownEnts SO.still
attribute [local simp] S0G argSlotG givSV retQG retPG retAllG retOneG HObj.width V.scalar trimQ V.byte
theorem min_len (m n : Nat) : (if n < m then (n : Int) else (m : Int)) = ((min m n : Nat) : Int) := by split <;> omega

theorem trim_idem {B : Nat} (hB : 2 ≤ B) {a : List Nat} (ha : Nm.Dl B a) : Nm.trim (Nm.trim a) = Nm.trim a := by rw [← Nm.dig_val hB ha, Nm.trim_dig hB]
theorem trim_dl {B : Nat} {a : List Nat} (ha : Nm.Dl B a) : Nm.Dl B (Nm.trim a) := by rw [Nm.trim_take]; exact ha.take _

theorem val_halves {B : Nat} (x : List Nat) (h : Nat) : Nm.val B (x.take (min h x.length)) + B ^ h * Nm.val B (x.drop (min h x.length)) = Nm.val B x := by
  by_cases hl : h ≤ x.length
  · rw [Nat.min_eq_left hl, ← Nm.val_split B x h hl]
  · rw [Nat.min_eq_right (by omega), List.take_length, List.drop_length]
    simp [Nm.val]

set_option maxHeartbeats 4000000 in
theorem nmul_spec : ∀ (m : Nat) (a b : List Nat), Nm.Dl 18446744073709551616 a → Nm.Dl 18446744073709551616 b → a.length ≤ 2 ^ 30 → b.length ≤ 2 ^ 30 → (Nm.trim a).length ≤ m → (Nm.trim b).length ≤ m →
    Spec Try.prog f_nat_Mul [U a, U b] (· = [.pure (U (Nm.dig 18446744073709551616 (Nm.val 18446744073709551616 a * Nm.val 18446744073709551616 b)))]) := by
  intro m
  induction m using Nat.strongRecOn with
  | _ m ih =>
  intro a b ha hb la lb hma hmb
  refine spec_at Try.func38 ok_nat_Mul [] rfl (by simp) ?_
  unfold sc_nat_Mul
  have p1 := plain_spec a (by omega)
  have p2 := plain_spec b (by omega)
  have l1 := Nm.trim_length_le a
  have l2 := Nm.trim_length_le b
  have d1 := trim_dl ha
  have d2 := trim_dl hb
  have t1 := trim_idem (by omega) ha
  have t2 := trim_idem (by omega) hb
  rw [← Nm.trim_val 18446744073709551616 a, ← Nm.trim_val 18446744073709551616 b]
  obtain ⟨x, hx⟩ : ∃ x, x = Nm.trim a := ⟨_, rfl⟩
  obtain ⟨y, hy⟩ : ∃ y, y = Nm.trim b := ⟨_, rfl⟩
  rw [← hx] at p1 l1 d1 t1 hma ⊢
  rw [← hy] at p2 l2 d2 t2 hmb ⊢
  refine WS_seq (WS_reg [] ?_)
  simp
  refine WS_seq (WS_reg [] ?_)
  simp
  refine callK p1 ?_
  simp
  refine callK p2 ?_
  simp
  refine WS_seq (WS_seq (WS_reg [] ?_))
  simp [U, min_len]
  by_cases hsm : ((min x.length y.length : Nat) : Int) < 8
  · refine WS_cond (t := true) (by simp; omega) (fun _ => ?_) (fun h => by cases h)
    refine WS_seq (WS_reg [] ?_)
    simp
    refine callK (school_spec x y d1 d2 (by omega) (by omega)) ?_
    simp
    refine WS_ret ?_
    simp [U]
  · refine WS_cond (t := false) (by simp; omega) (fun h => by cases h) (fun _ => WS_skip ?_)
    simp
    obtain ⟨M, hM⟩ : ∃ M, M = max x.length y.length := ⟨_, rfl⟩
    obtain ⟨h, hh⟩ : ∃ h, h = M / 2 := ⟨_, rfl⟩
    have hM8 : 8 ≤ M := by omega
    have hMm : M ≤ m := by omega
    have q1 : ((M : Int)).tdiv 2 = (h : Int) := by have := tdiv_nat M 2; rw [← hh] at this; exact this
    have q2 := i64_nat h (by omega)
    refine WS_seq (WS_reg [] ?_)
    simp [max_len, ← hM, q1, q2]
    obtain ⟨hx1, hxh⟩ : ∃ p, p = min h x.length := ⟨_, rfl⟩
    obtain ⟨hy1, hyh⟩ : ∃ p, p = min h y.length := ⟨_, rfl⟩
    have mx : (if x.length < h then (x.length : Int) else (h : Int)) = (hx1 : Int) := by rw [hxh]; split <;> omega
    have my : (if y.length < h then (y.length : Int) else (h : Int)) = (hy1 : Int) := by rw [hyh]; split <;> omega
    have vx := val_halves (B := 18446744073709551616) x h
    have vy := val_halves (B := 18446744073709551616) y h
    rw [← hxh] at vx
    rw [← hyh] at vy
    have hx1le : hx1 ≤ x.length := by omega
    have hy1le : hy1 ≤ y.length := by omega
    have da0 := trim_dl (d1.take hx1)
    have db0 := trim_dl (d2.take hy1)
    have da1 := d1.drop hx1
    have db1 := d2.drop hy1
    have va0 := Nm.trim_val 18446744073709551616 (x.take hx1)
    have vb0 := Nm.trim_val 18446744073709551616 (y.take hy1)
    have ta0 := trim_idem (by omega) (d1.take hx1)
    have tb0 := trim_idem (by omega) (d2.take hy1)
    have la0 := Nm.trim_length_le (x.take hx1)
    have lb0 := Nm.trim_length_le (y.take hy1)
    have la1 := Nm.trim_length_le (x.drop hx1)
    have lb1 := Nm.trim_length_le (y.drop hy1)
    have sp0 := plain_spec (x.take hx1) (by simp; omega)
    have sp1 := plain_spec (y.take hy1) (by simp; omega)
    obtain ⟨a0, ha0⟩ : ∃ z, z = Nm.trim (x.take hx1) := ⟨_, rfl⟩
    obtain ⟨b0, hb0⟩ : ∃ z, z = Nm.trim (y.take hy1) := ⟨_, rfl⟩
    obtain ⟨a1, ha1⟩ : ∃ z, z = x.drop hx1 := ⟨_, rfl⟩
    obtain ⟨b1, hb1⟩ : ∃ z, z = y.drop hy1 := ⟨_, rfl⟩
    have la1' : a1.length ≤ M - h := by rw [ha1]; simp; omega
    have lb1' : b1.length ≤ M - h := by rw [hb1]; simp; omega
    rw [List.length_take] at la0 lb0
    rw [← ha0] at da0 va0 ta0 la0 sp0
    rw [← hb0] at db0 vb0 tb0 lb0 sp1
    rw [← ha1] at da1 vx la1
    rw [← hb1] at db1 vy lb1
    rw [← va0] at vx
    rw [← vb0] at vy
    have lta0 : Nm.val 18446744073709551616 a0 < 18446744073709551616 ^ (M - h) := Nat.lt_of_lt_of_le (Nm.val_lt da0) (Nat.pow_le_pow_right (by omega) (by omega))
    have ltb0 : Nm.val 18446744073709551616 b0 < 18446744073709551616 ^ (M - h) := Nat.lt_of_lt_of_le (Nm.val_lt db0) (Nat.pow_le_pow_right (by omega) (by omega))
    have lta1 : Nm.val 18446744073709551616 a1 < 18446744073709551616 ^ (M - h) := Nat.lt_of_lt_of_le (Nm.val_lt da1) (Nat.pow_le_pow_right (by omega) (by omega))
    have ltb1 : Nm.val 18446744073709551616 b1 < 18446744073709551616 ^ (M - h) := Nat.lt_of_lt_of_le (Nm.val_lt db1) (Nat.pow_le_pow_right (by omega) (by omega))
    have hP : 18446744073709551616 ^ (M - h + 1) = 18446744073709551616 ^ (M - h) * 18446744073709551616 := Nat.pow_succ ..
    have ltsa : Nm.val 18446744073709551616 a0 + Nm.val 18446744073709551616 a1 < 18446744073709551616 ^ (M - h + 1) := by rw [hP]; omega
    have ltsb : Nm.val 18446744073709551616 b0 + Nm.val 18446744073709551616 b1 < 18446744073709551616 ^ (M - h + 1) := by rw [hP]; omega
    have lsa := Nm.dig_length_le (B := 18446744073709551616) (by omega) ltsa
    have lsb := Nm.dig_length_le (B := 18446744073709551616) (by omega) ltsb
    have ad1 := add_spec a0 a1 da0 da1 (by omega) (by omega)
    have ad2 := add_spec b0 b1 db0 db1 (by omega) (by omega)
    have lowS := ih (M - 1) (by omega) a0 b0 da0 db0 (by omega) (by omega) (by rw [ta0]; omega) (by rw [tb0]; omega)
    have highS := ih (M - 1) (by omega) a1 b1 da1 db1 (by omega) (by omega) (by omega) (by omega)
    have midS := ih (M - 1) (by omega) (Nm.dig 18446744073709551616 (Nm.val 18446744073709551616 a0 + Nm.val 18446744073709551616 a1)) (Nm.dig 18446744073709551616 (Nm.val 18446744073709551616 b0 + Nm.val 18446744073709551616 b1))
      (Nm.dig_lt (by omega) _) (Nm.dig_lt (by omega) _) (by omega) (by omega) (by rw [Nm.trim_dig (by omega)]; omega) (by rw [Nm.trim_dig (by omega)]; omega)
    rw [Nm.val_dig (by omega), Nm.val_dig (by omega)] at midS
    have hQ : 18446744073709551616 ^ (2 * h) = 18446744073709551616 ^ h * 18446744073709551616 ^ h := by rw [← Nat.pow_add]; congr 1; omega
    have kar := Nm.kara (a0 := Nm.val 18446744073709551616 a0) (a1 := Nm.val 18446744073709551616 a1) (b0 := Nm.val 18446744073709551616 b0) (b1 := Nm.val 18446744073709551616 b1) hQ
    obtain ⟨k1, k2⟩ := Nm.kara_le (a0 := Nm.val 18446744073709551616 a0) (a1 := Nm.val 18446744073709551616 a1) (b0 := Nm.val 18446744073709551616 b0) (b1 := Nm.val 18446744073709551616 b1)
    rw [vx, vy] at kar
    have ltall : (Nm.val 18446744073709551616 a0 + Nm.val 18446744073709551616 a1) * (Nm.val 18446744073709551616 b0 + Nm.val 18446744073709551616 b1) < 18446744073709551616 ^ (2 * M) :=
      Nat.lt_of_lt_of_le (Nat.mul_lt_mul'' ltsa ltsb) (by rw [← Nat.pow_add]; exact Nat.pow_le_pow_right (by omega) (by omega))
    have ltxy : Nm.val 18446744073709551616 x * Nm.val 18446744073709551616 y < 18446744073709551616 ^ (2 * M) := by
      have e1 : Nm.val 18446744073709551616 x < 18446744073709551616 ^ M := Nat.lt_of_lt_of_le (Nm.val_lt d1) (Nat.pow_le_pow_right (by omega) (by omega))
      have e2 : Nm.val 18446744073709551616 y < 18446744073709551616 ^ M := Nat.lt_of_lt_of_le (Nm.val_lt d2) (Nat.pow_le_pow_right (by omega) (by omega))
      rw [show 2 * M = M + M by omega, Nat.pow_add]
      exact Nat.mul_lt_mul'' e1 e2
    obtain ⟨A, hA⟩ : ∃ z, z = (Nm.val 18446744073709551616 a0 + Nm.val 18446744073709551616 a1) * (Nm.val 18446744073709551616 b0 + Nm.val 18446744073709551616 b1) := ⟨_, rfl⟩
    obtain ⟨Lo, hLo⟩ : ∃ z, z = Nm.val 18446744073709551616 a0 * Nm.val 18446744073709551616 b0 := ⟨_, rfl⟩
    obtain ⟨Hi, hHi⟩ : ∃ z, z = Nm.val 18446744073709551616 a1 * Nm.val 18446744073709551616 b1 := ⟨_, rfl⟩
    obtain ⟨XY, hXY⟩ : ∃ z, z = Nm.val 18446744073709551616 x * Nm.val 18446744073709551616 y := ⟨_, rfl⟩
    rw [← hA] at midS kar k1 k2 ltall
    rw [← hLo] at lowS kar k1 k2
    rw [← hHi] at highS kar k2
    rw [← hXY] at kar ltxy ⊢
    have lA := Nm.dig_length_le (B := 18446744073709551616) (by omega) (n := A) (k := 2 * M) (by omega)
    have lLo := Nm.dig_length_le (B := 18446744073709551616) (by omega) (n := Lo) (k := 2 * M) (by omega)
    have lHi := Nm.dig_length_le (B := 18446744073709551616) (by omega) (n := Hi) (k := 2 * M) (by omega)
    have lA1 := Nm.dig_length_le (B := 18446744073709551616) (by omega) (n := A - Lo) (k := 2 * M) (by omega)
    have lA2 := Nm.dig_length_le (B := 18446744073709551616) (by omega) (n := A - Lo - Hi) (k := 2 * M) (by omega)
    have less1 := nless_spec (Nm.dig 18446744073709551616 A) (Nm.dig 18446744073709551616 Lo) (Nm.dig_lt (by omega) _) (Nm.dig_lt (by omega) _) (by omega) (by omega) (by rw [Nm.val_dig (by omega), Nm.val_dig (by omega)]; exact k1)
    have less2 := nless_spec (Nm.dig 18446744073709551616 (A - Lo)) (Nm.dig 18446744073709551616 Hi) (Nm.dig_lt (by omega) _) (Nm.dig_lt (by omega) _) (by omega) (by omega) (by rw [Nm.val_dig (by omega), Nm.val_dig (by omega)]; exact k2)
    rw [Nm.val_dig (by omega), Nm.val_dig (by omega)] at less1 less2
    have mv1 := moved_spec (Nm.dig 18446744073709551616 (A - Lo - Hi)) h (by omega) (by omega)
    have mv2 := moved_spec (Nm.dig 18446744073709551616 Hi) (2 * h) (by omega) (by omega)
    have dmv1 : Nm.Dl 18446744073709551616 (List.replicate h 0 ++ Nm.dig 18446744073709551616 (A - Lo - Hi)) := (Nm.Dl.replicate (by omega) _).append (Nm.dig_lt (by omega) _)
    have dmv2 : Nm.Dl 18446744073709551616 (List.replicate (2 * h) 0 ++ Nm.dig 18446744073709551616 Hi) := (Nm.Dl.replicate (by omega) _).append (Nm.dig_lt (by omega) _)
    have vmv1 : Nm.val 18446744073709551616 (List.replicate h 0 ++ Nm.dig 18446744073709551616 (A - Lo - Hi)) = 18446744073709551616 ^ h * (A - Lo - Hi) := by rw [Nm.val_append, Nm.val_replicate, Nm.val_dig (by omega)]; simp
    have vmv2 : Nm.val 18446744073709551616 (List.replicate (2 * h) 0 ++ Nm.dig 18446744073709551616 Hi) = 18446744073709551616 ^ (2 * h) * Hi := by rw [Nm.val_append, Nm.val_replicate, Nm.val_dig (by omega)]; simp
    obtain ⟨S1v, hS1⟩ : ∃ z, z = Lo + 18446744073709551616 ^ h * (A - Lo - Hi) := ⟨_, rfl⟩
    have ad3 := add_spec (Nm.dig 18446744073709551616 Lo) (List.replicate h 0 ++ Nm.dig 18446744073709551616 (A - Lo - Hi)) (Nm.dig_lt (by omega) _) dmv1 (by omega) (by simp; omega)
    rw [Nm.val_dig (by omega), vmv1, ← hS1] at ad3
    have lS1 := Nm.dig_length_le (B := 18446744073709551616) (by omega) (n := S1v) (k := 2 * M) (by omega)
    have ad4 := add_spec (Nm.dig 18446744073709551616 S1v) (List.replicate (2 * h) 0 ++ Nm.dig 18446744073709551616 Hi) (Nm.dig_lt (by omega) _) dmv2 (by omega) (by simp; omega)
    rw [Nm.val_dig (by omega), vmv2, hS1, kar] at ad4
    rw [← hS1] at ad4
    have q3 : IntKind.i64.wrap (2 * (h : Int)) = ((2 * h : Nat) : Int) := by rw [i64_int _ (by omega) (by omega)]; omega
    obtain ⟨h2, hh2⟩ : ∃ z, z = 2 * h := ⟨_, rfl⟩
    rw [← hh2] at mv2 ad4 q3
    refine WS_seq (WS_regD [] ?_)
    simp [mx, hx1le]
    refine callD sp0 rfl ?_
    simp [mx, hx1le, ← ha1]
    refine ⟨rfl, ?_⟩
    refine WS_seq (WS_regD [] ?_)
    simp [my, hy1le]
    refine callD sp1 rfl ?_
    simp [my, hy1le, ← hb1]
    refine ⟨rfl, ?_⟩
    refine WS_seq (WS_reg [] ?_)
    simp [U]
    refine callK lowS ?_
    simp
    refine callK highS ?_
    simp
    refine WS_seq (WS_reg [] ?_)
    simp [U]
    refine callK ad1 ?_
    simp
    refine callK ad2 ?_
    simp
    refine callK midS ?_
    simp [U]
    refine callK less1 ?_
    simp [U]
    refine callK less2 ?_
    simp
    refine WS_seq (WS_reg [] ?_)
    simp [U]
    refine callK mv1 ?_
    simp [U]
    refine callK ad3 ?_
    simp [U, q3]
    refine callK mv2 ?_
    simp [U]
    refine callK ad4 ?_
    simp
    refine WS_ret ?_
    simp [U]

theorem mul_spec (a b : List Nat) (ha : Nm.Dl 18446744073709551616 a) (hb : Nm.Dl 18446744073709551616 b) (la : a.length ≤ 2 ^ 30) (lb : b.length ≤ 2 ^ 30) :
    Spec Try.prog f_nat_Mul [U a, U b] (· = [.pure (U (Nm.dig 18446744073709551616 (Nm.val 18446744073709551616 a * Nm.val 18446744073709551616 b)))]) :=
  nmul_spec (a.length + b.length) a b ha hb la lb (by have := Nm.trim_length_le a; omega) (by have := Nm.trim_length_le b; omega)


theorem law_NatMultiplies (a b : List Nat) (ha : Nm.Dl 18446744073709551616 a) (hb : Nm.Dl 18446744073709551616 b) (la : a.length ≤ 2 ^ 28) (lb : b.length ≤ 2 ^ 28) :
    Spec Try.prog f_law01_NatMultiplies [U a, U b] (· = [.pure (.b true)]) := by
  refine spec_at Try.func4 ok_law01_NatMultiplies [] rfl (by simp) ?_
  unfold sc_law01_NatMultiplies
  have d2 : Nm.Dl 18446744073709551616 [2] := Nm.Dl.cons (by omega) (Nm.Dl.nil _)
  have d3 : Nm.Dl 18446744073709551616 [3] := Nm.Dl.cons (by omega) (Nm.Dl.nil _)
  have six : Nm.dig 18446744073709551616 (Nm.val 18446744073709551616 [2] * Nm.val 18446744073709551616 [3]) = [6] := by decide +kernel
  have m0 := mul_spec [2] [3] d2 d3 (by simp) (by simp)
  rw [six] at m0
  have w := i64_addn a.length b.length (by omega)
  have hlen := Nm.dig_length_le (B := 18446744073709551616) (by omega) (n := Nm.val 18446744073709551616 a * Nm.val 18446744073709551616 b) (k := a.length + b.length) (by rw [Nat.pow_add]; exact Nat.mul_lt_mul'' (Nm.val_lt ha) (Nm.val_lt hb))
  refine WS_seq (WS_reg [] ?_)
  simp
  refine WS_seq (WS_seq (WS_reg [] ?_))
  simp [U, w]
  by_cases h : (400 : Int) < (a.length : Int) + b.length
  · refine WS_cond (t := true) (by simp; omega) (fun _ => ?_) (fun h => by cases h)
    refine WS_seq (WS_reg [] ?_)
    simp
    refine callK m0 ?_
    simp
    refine callK (same_spec [6] (by simp)) ?_
    simp
    refine WS_ret ?_
    simp
  · refine WS_cond (t := false) (by simp; omega) (fun h => by cases h) (fun _ => WS_skip ?_)
    simp
    refine WS_seq (WS_reg [] ?_)
    simp
    refine callK m0 ?_
    simp
    refine callK (same_spec [6] (by simp)) ?_
    simp
    refine callK (mul_spec a b ha hb (by omega) (by omega)) ?_
    simp
    refine callK (rmul_spec a b ha hb (by omega) (by omega)) ?_
    simp
    refine callK (same_spec _ (by omega)) ?_
    simp
    refine WS_ret ?_
    simp
end Go.Vw
