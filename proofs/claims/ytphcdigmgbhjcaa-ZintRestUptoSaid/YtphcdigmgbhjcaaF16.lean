/- The statements NatRing and NatOrder. -/
import Derived.Test.YtphcdigmgbhjcaaF15
import Derived.Test.YtphcdigmgbhjcaaF12
import Derived.Test.YtphcdigmgbhjcaaF5
set_option linter.unusedVariables false
set_option linter.unusedSimpArgs false
namespace Go.Vw
open Go.Proofs

attribute [local simp] RunL_cons RunL_nil AOp_none AOp_some acK_v acK_call agK_tt agK_ff agK_tf agK_ft agK_tup agK_i aop aun St.ev St.heap St.put thenQ blockQ upd_apply S0 argSlot lowV V.cells V.isAgg V.fits V.part partOk plains St.ret retSV svOf svsOf retQ retP retAll retOne uL_length uL_get? uL_get St.elems retH ownIdx ownAt
attribute [local simp] RunD_none RunD_some RunD_nil RunE_any acD_v acD_call agD_tt agD_ff agD_tf agD_ft agD_tup entsOf svref SO.opds SO.writes SO.makes callEnt pureSV pureOf RV.isOwn
attribute [local simp] abin_add abin_sub abin_mul abin_quo abin_rem abin_eql abin_neq abin_lss abin_leq abin_gtr abin_geq
attribute [local simp] uL_snoc uL_set uL_take uL_drop uL_append uL_replicate uL_nil
attribute [local simp] acK_callG acD_callG St.giv gsSV gvSV retEnts ownEnts SO.still
attribute [local simp] S0G argSlotG givSV retQG retPG retAllG retOneG HObj.width V.scalar trimQ V.byte
theorem cmp_nil_one : Spec Try.prog f_nat_Cmp [U [], U [1]] (· = [.pure (.i .i64 (-1))]) := by
  have h := ncmp_spec [] [1] (Nm.Dl.nil _) (Nm.Dl.cons (by omega) (Nm.Dl.nil _)) (by simp) (by simp)
  have e : Nm.cmpN (Nm.val 18446744073709551616 []) (Nm.val 18446744073709551616 [1]) = -1 := by decide +kernel
  rw [e] at h
  exact h

theorem add_back (b : List Nat) (M : Nat) (hb : Nm.Dl 18446744073709551616 b) (hM : (Nm.dig 18446744073709551616 M).length ≤ 2 ^ 40) (lb : b.length ≤ 2 ^ 40) (hle : Nm.val 18446744073709551616 b ≤ M) :
    Spec Try.prog f_nat_Sub [U (Nm.dig 18446744073709551616 M), U b] (· = [.pure (U (Nm.dig 18446744073709551616 (M - Nm.val 18446744073709551616 b))), .pure (.i .i64 0)]) := by
  have h := sub_spec (Nm.dig 18446744073709551616 M) b (Nm.dig_lt (by omega) _) hb hM lb
  rw [Nm.val_dig (by omega), if_pos hle] at h
  exact h

set_option maxHeartbeats 4000000 in
theorem law_NatRing (a b c : List Nat) (ha : Nm.Dl 18446744073709551616 a) (hb : Nm.Dl 18446744073709551616 b) (hc : Nm.Dl 18446744073709551616 c) (la : a.length ≤ 2 ^ 24) (lb : b.length ≤ 2 ^ 24) (lc : c.length ≤ 2 ^ 24) :
    Spec Try.prog f_law01_NatRing [U a, U b, U c] (· = [.pure (.b true)]) := by
  refine spec_at Try.func7 ok_law01_NatRing [] rfl (by simp) ?_
  unfold sc_law01_NatRing
  obtain ⟨n, hn⟩ : ∃ n, n = a.length + b.length + c.length := ⟨_, rfl⟩
  have w1 := i64_addn a.length b.length (by omega)
  have w2 : IntKind.i64.wrap ((a.length : Int) + b.length + c.length) = (a.length : Int) + b.length + c.length := i64_int _ (by omega) (by omega)
  have hA := Nat.lt_of_lt_of_le (Nm.val_lt ha) (Nat.pow_le_pow_right (n := 18446744073709551616) (by omega) (show a.length ≤ n by omega))
  have hB := Nat.lt_of_lt_of_le (Nm.val_lt hb) (Nat.pow_le_pow_right (n := 18446744073709551616) (by omega) (show b.length ≤ n by omega))
  have hC := Nat.lt_of_lt_of_le (Nm.val_lt hc) (Nat.pow_le_pow_right (n := 18446744073709551616) (by omega) (show c.length ≤ n by omega))
  have sAB := add_spec a b ha hb (by omega) (by omega)
  have sBA := add_spec b a hb ha (by omega) (by omega)
  have sBC := add_spec b c hb hc (by omega) (by omega)
  have mAB := mul_spec a b ha hb (by omega) (by omega)
  have mBA := mul_spec b a hb ha (by omega) (by omega)
  have mBC := mul_spec b c hb hc (by omega) (by omega)
  have mAC := mul_spec a c ha hc (by omega) (by omega)
  have nA := nnorm_spec a (by omega)
  rw [← Nm.dig_val (by omega) ha] at nA
  have adl : ∀ (M : Nat) (l : List Nat), (Nm.dig 18446744073709551616 M).length ≤ 2 ^ 40 → Nm.Dl 18446744073709551616 l → l.length ≤ 2 ^ 40 → Spec Try.prog f_nat_Add [U (Nm.dig 18446744073709551616 M), U l] (· = [.pure (U (Nm.dig 18446744073709551616 (M + Nm.val 18446744073709551616 l)))]) := fun M l h1 h2 h3 => by
    have h := add_spec (Nm.dig 18446744073709551616 M) l (Nm.dig_lt (by omega) _) h2 h1 h3
    rw [Nm.val_dig (by omega)] at h
    exact h
  have adr : ∀ (M : Nat) (l : List Nat), (Nm.dig 18446744073709551616 M).length ≤ 2 ^ 40 → Nm.Dl 18446744073709551616 l → l.length ≤ 2 ^ 40 → Spec Try.prog f_nat_Add [U l, U (Nm.dig 18446744073709551616 M)] (· = [.pure (U (Nm.dig 18446744073709551616 (Nm.val 18446744073709551616 l + M)))]) := fun M l h1 h2 h3 => by
    have h := add_spec l (Nm.dig 18446744073709551616 M) h2 (Nm.dig_lt (by omega) _) h3 h1
    rw [Nm.val_dig (by omega)] at h
    exact h
  have mdl : ∀ (M : Nat) (l : List Nat), (Nm.dig 18446744073709551616 M).length ≤ 2 ^ 30 → Nm.Dl 18446744073709551616 l → l.length ≤ 2 ^ 30 → Spec Try.prog f_nat_Mul [U (Nm.dig 18446744073709551616 M), U l] (· = [.pure (U (Nm.dig 18446744073709551616 (M * Nm.val 18446744073709551616 l)))]) := fun M l h1 h2 h3 => by
    have h := mul_spec (Nm.dig 18446744073709551616 M) l (Nm.dig_lt (by omega) _) h2 h1 h3
    rw [Nm.val_dig (by omega)] at h
    exact h
  have mdr : ∀ (M : Nat) (l : List Nat), (Nm.dig 18446744073709551616 M).length ≤ 2 ^ 30 → Nm.Dl 18446744073709551616 l → l.length ≤ 2 ^ 30 → Spec Try.prog f_nat_Mul [U l, U (Nm.dig 18446744073709551616 M)] (· = [.pure (U (Nm.dig 18446744073709551616 (Nm.val 18446744073709551616 l * M)))]) := fun M l h1 h2 h3 => by
    have h := mul_spec l (Nm.dig 18446744073709551616 M) h2 (Nm.dig_lt (by omega) _) h3 h1
    rw [Nm.val_dig (by omega)] at h
    exact h
  have add2 : ∀ (M N : Nat), (Nm.dig 18446744073709551616 M).length ≤ 2 ^ 40 → (Nm.dig 18446744073709551616 N).length ≤ 2 ^ 40 → Spec Try.prog f_nat_Add [U (Nm.dig 18446744073709551616 M), U (Nm.dig 18446744073709551616 N)] (· = [.pure (U (Nm.dig 18446744073709551616 (M + N)))]) := fun M N h1 h2 => by
    have h := adl M (Nm.dig 18446744073709551616 N) h1 (Nm.dig_lt (by omega) _) h2
    rw [Nm.val_dig (by omega)] at h
    exact h
  have bk := add_back b (Nm.val 18446744073709551616 a + Nm.val 18446744073709551616 b) hb
  rw [Nat.add_sub_cancel] at bk
  obtain ⟨A, hAd⟩ : ∃ z, z = Nm.val 18446744073709551616 a := ⟨_, rfl⟩
  obtain ⟨B, hBd⟩ : ∃ z, z = Nm.val 18446744073709551616 b := ⟨_, rfl⟩
  obtain ⟨C, hCd⟩ : ∃ z, z = Nm.val 18446744073709551616 c := ⟨_, rfl⟩
  have abC := adl (A + B) c
  have aBC := adr (B + C) a
  have abCm := mdl (A * B) c
  have aBCm := mdr (B * C) a
  have aBCs := mdr (B + C) a
  have abac := add2 (A * B) (A * C)
  rw [← hAd] at hA sAB sBA mAB mBA mAC nA bk aBC aBCm aBCs
  rw [← hBd] at hB sAB sBA sBC mAB mBA mBC bk
  rw [← hCd] at hC sBC mBC mAC abC abCm
  rw [Nat.add_comm B A] at sBA
  rw [Nat.mul_comm B A] at mBA
  rw [← Nat.add_assoc] at aBC
  rw [← Nat.mul_assoc] at aBCm
  rw [← Nat.mul_add] at abac
  have hp : 18446744073709551616 ^ (n + 1) = 18446744073709551616 ^ n * 18446744073709551616 := Nat.pow_succ ..
  have lA := Nm.dig_length_le (B := 18446744073709551616) (by omega) hA
  have lAB := Nm.dig_length_le (B := 18446744073709551616) (by omega) (n := A + B) (k := n + 1) (by rw [hp]; omega)
  have lBC := Nm.dig_length_le (B := 18446744073709551616) (by omega) (n := B + C) (k := n + 1) (by rw [hp]; omega)
  have lABC := Nm.dig_length_le (B := 18446744073709551616) (by omega) (n := A + B + C) (k := n + 1) (by rw [hp]; omega)
  have mm : ∀ {x y p q : Nat}, x < 18446744073709551616 ^ p → y < 18446744073709551616 ^ q → x * y < 18446744073709551616 ^ (p + q) := fun h1 h2 => by rw [Nat.pow_add]; exact Nat.mul_lt_mul'' h1 h2
  have kAB := Nm.dig_length_le (B := 18446744073709551616) (by omega) (mm hA hB)
  have kBC := Nm.dig_length_le (B := 18446744073709551616) (by omega) (mm hB hC)
  have kAC := Nm.dig_length_le (B := 18446744073709551616) (by omega) (mm hA hC)
  have kABC := Nm.dig_length_le (B := 18446744073709551616) (by omega) (mm (mm hA hB) hC)
  have kAs := Nm.dig_length_le (B := 18446744073709551616) (by omega) (mm hA (show B + C < 18446744073709551616 ^ (n + 1) by rw [hp]; omega))
  have n24 : n ≤ 2 ^ 26 := by omega
  have bk := bk (by omega) (by omega) (by omega)
  have abC := abC (by omega) hc (by omega)
  have aBC := aBC (by omega) ha (by omega)
  have abCm := abCm (by omega) hc (by omega)
  have aBCm := aBCm (by omega) ha (by omega)
  have aBCs := aBCs (by omega) ha (by omega)
  have abac := abac (by omega) (by omega)
  have e1 := same_spec _ (show (Nm.dig 18446744073709551616 (A + B)).length ≤ 2 ^ 40 by omega)
  have e2 := same_spec _ (show (Nm.dig 18446744073709551616 (A + B + C)).length ≤ 2 ^ 40 by omega)
  have e3 := same_spec _ (show (Nm.dig 18446744073709551616 (A * B)).length ≤ 2 ^ 40 by omega)
  have e4 := same_spec _ (show (Nm.dig 18446744073709551616 (A * B * C)).length ≤ 2 ^ 40 by omega)
  have e5 := same_spec _ (show (Nm.dig 18446744073709551616 (A * (B + C))).length ≤ 2 ^ 40 by omega)
  have e6 := same_spec _ (show (Nm.dig 18446744073709551616 A).length ≤ 2 ^ 40 by omega)
  clear adl adr mdl mdr add2 mm hp kAB kBC kAC kABC kAs lA lAB lBC lABC
  refine WS_seq (WS_reg [] ?_)
  simp
  refine WS_seq (WS_seq (WS_reg [] ?_))
  simp [U, w1, w2]
  by_cases h : (400 : Int) < (a.length : Int) + b.length + c.length
  · refine WS_cond (t := true) (by simp; omega) (fun _ => ?_) (fun h => by cases h)
    refine WS_seq (WS_reg [] ?_)
    simp
    refine callK cmp_nil_one ?_
    simp
    refine WS_ret ?_
    simp
  · refine WS_cond (t := false) (by simp; omega) (fun h => by cases h) (fun _ => WS_skip ?_)
    simp
    refine WS_seq (WS_reg [] ?_)
    simp
    refine callK sAB ?_
    simp
    refine callK bk ?_
    simp
    refine WS_seq (WS_reg [] ?_)
    simp
    refine callK cmp_nil_one ?_
    simp
    refine callK sAB ?_
    simp
    refine callK sBA ?_
    simp
    refine callK e1 ?_
    simp
    refine callK sAB ?_
    simp
    refine callK abC ?_
    simp
    refine callK sBC ?_
    simp
    refine callK aBC ?_
    simp
    refine callK e2 ?_
    simp
    refine callK mAB ?_
    simp
    refine callK mBA ?_
    simp
    refine callK e3 ?_
    simp
    refine callK mAB ?_
    simp
    refine callK abCm ?_
    simp
    refine callK mBC ?_
    simp
    refine callK aBCm ?_
    simp
    refine callK e4 ?_
    simp
    refine callK sBC ?_
    simp
    refine callK aBCs ?_
    simp
    refine callK mAB ?_
    simp
    refine callK mAC ?_
    simp
    refine callK abac ?_
    simp
    refine callK e5 ?_
    simp
    refine callK nA ?_
    simp
    refine callK e6 ?_
    simp
    refine WS_ret ?_
    simp
end Go.Vw
