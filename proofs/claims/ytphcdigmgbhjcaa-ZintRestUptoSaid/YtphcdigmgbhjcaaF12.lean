/- Functions of nat and cleaverref01: which is greater, without noughts, how many bits; the statement NatAdds. -/
import Derived.Test.YtphcdigmgbhjcaaF3
import Derived.Test.YtphcdigmgbhjcaaF8
import Derived.Lib.BitFns
set_option linter.unusedVariables false
set_option linter.unusedSimpArgs false
namespace Go.Vw
open Go.Proofs

attribute [local simp] RunL_cons RunL_nil AOp_none AOp_some acK_v acK_call agK_tt agK_ff agK_tf agK_ft agK_tup agK_i aop aun St.ev St.heap St.put thenQ blockQ upd_apply S0 argSlot lowV V.cells V.isAgg V.fits V.part partOk plains St.ret retSV svOf svsOf retQ retP retAll retOne uL_length uL_get? uL_get St.elems retH ownIdx ownAt
attribute [local simp] RunD_none RunD_some RunD_nil RunE_any acD_v acD_call agD_tt agD_ff agD_tf agD_ft agD_tup entsOf svref SO.opds SO.writes SO.makes callEnt pureSV pureOf RV.isOwn
attribute [local simp] abin_add abin_sub abin_mul abin_quo abin_rem abin_eql abin_neq abin_lss abin_leq abin_gtr abin_geq
attribute [local simp] uL_snoc uL_set uL_take uL_drop uL_append uL_replicate uL_nil
attribute [local simp] acK_callG acD_callG St.giv gsSV gvSV retEnts ownEnts SO.still
attribute [local simp] S0G argSlotG givSV retQG retPG retAllG retOneG HObj.width V.scalar trimQ V.byte
theorem WS_cut {P : Program} {n : Nat} {x y : SC} {Q : Exit → St → Prop} {S : St} (I : St → Prop) (h1 : WS P n x (fun e S => e = .normal ∧ I S) S) (h2 : ∀ S, I S → WS P n y Q S) : WS P n (.seq x y) Q S := by
  refine WS_seq (h1.mono ?_)
  rintro e S ⟨rfl, hi⟩
  exact h2 S hi

theorem uL_cons (x : Nat) (l : List Nat) : uL (x :: l) = V.i .u64 (x : Int) :: uL l := rfl

theorem clone_spec (a : List Nat) (hl : a.length ≤ 2 ^ 40) : Spec Try.prog f_slices_Clone_Luint64_uint64 [U a] (· = [.pure (U a)]) := by
  refine spec_at Try.func143 ok_slices_Clone_Luint64_uint64 [] rfl (by simp) ?_
  unfold sc_slices_Clone_Luint64_uint64 U
  refine WS_seq (WS_reg [] ?_)
  simp
  refine WS_seq (WS_seq (WS_reg [] ?_))
  cases a with
  | nil =>
    simp
    refine WS_either (by simp) ?_ ?_
    · refine WS_seq (WS_reg [] ?_)
      simp
      refine WS_ret ?_
      simp
    · refine WS_skip ?_
      simp
      refine WS_seq (WS_reg [5, 7] ?_)
      simp
      refine WS_ret ?_
      simp
  | cons x r =>
    simp [uL_cons]
    refine WS_cond (t := false) (by simp) (fun h => by cases h) (fun _ => ?_)
    refine WS_skip ?_
    simp
    refine WS_seq (WS_reg [5, 7] ?_)
    simp
    simp at hl
    refine ⟨by omega, ?_⟩
    refine WS_ret ?_
    simp

theorem nnorm_spec (a : List Nat) (hl : a.length ≤ 2 ^ 40) : Spec Try.prog f_nat_Norm [U a] (· = [.pure (U (Nm.trim a))]) := by
  refine spec_at Try.func46 ok_nat_Norm [] rfl (by simp) ?_
  unfold sc_nat_Norm
  have := Nm.trim_length_le a
  refine WS_seq (WS_reg [] ?_)
  simp
  refine WS_seq (WS_reg [] ?_)
  simp
  refine callK (plain_spec a (by omega)) ?_
  simp
  refine callK (clone_spec _ (by omega)) ?_
  simp
  refine WS_ret ?_
  simp

theorem isNaN_int_spec (m : Int) : Spec Try.prog f_cmp_isNaN_int [.i .i64 m] (· = [.pure (.b false)]) := by
  refine spec_at Try.func162 ok_cmp_isNaN_int [] rfl (by simp) ?_
  unfold sc_cmp_isNaN_int
  refine WS_seq (WS_reg [] ?_)
  simp
  refine WS_seq (WS_reg [] ?_)
  simp
  refine WS_ret ?_
  simp

theorem isNaN_u64_spec (m : Int) : Spec Try.prog f_cmp_isNaN_uint64 [.i .u64 m] (· = [.pure (.b false)]) := by
  refine spec_at Try.func163 ok_cmp_isNaN_uint64 [] rfl (by simp) ?_
  unfold sc_cmp_isNaN_uint64
  refine WS_seq (WS_reg [] ?_)
  simp
  refine WS_seq (WS_reg [] ?_)
  simp
  refine WS_ret ?_
  simp

theorem ccmp_int_spec (m n : Nat) : Spec Try.prog f_cmp_Compare_int [.i .i64 (m : Int), .i .i64 (n : Int)] (· = [.pure (.i .i64 (Nm.cmpN m n))]) := by
  refine spec_at Try.func141 ok_cmp_Compare_int [] rfl (by simp) ?_
  unfold sc_cmp_Compare_int Nm.cmpN
  refine WS_seq (WS_reg [] ?_)
  simp
  refine WS_seq (WS_reg [] ?_)
  simp
  refine callK (isNaN_int_spec _) ?_
  simp
  refine WS_seq (WS_reg [] ?_)
  simp
  refine callK (isNaN_int_spec _) ?_
  simp
  refine WS_seq (WS_seq (WS_reg [] ?_))
  simp
  refine WS_cond (t := false) (by simp) (fun h => by cases h) (fun _ => WS_skip ?_)
  simp
  refine WS_seq (WS_seq (WS_reg [] ?_))
  simp
  refine WS_cond (t := false) (by simp) (fun h => by cases h) (fun _ => WS_skip ?_)
  simp
  refine WS_seq (WS_seq (WS_reg [] ?_))
  simp
  by_cases h1 : m < n
  · refine WS_cond (t := true) (by simp [h1]) (fun _ => ?_) (fun h => by cases h)
    refine WS_seq (WS_reg [] ?_)
    simp
    refine WS_ret ?_
    simp [h1]
  · refine WS_cond (t := false) (by simp; omega) (fun h => by cases h) (fun _ => WS_skip ?_)
    simp
    refine WS_seq (WS_seq (WS_reg [] ?_))
    simp
    by_cases h2 : n < m
    · refine WS_cond (t := true) (by simp [h2]) (fun _ => ?_) (fun h => by cases h)
      refine WS_seq (WS_reg [] ?_)
      simp
      refine WS_ret ?_
      simp [h1, h2]
    · refine WS_cond (t := false) (by simp; omega) (fun h => by cases h) (fun _ => WS_skip ?_)
      simp
      refine WS_seq (WS_reg [] ?_)
      simp
      refine WS_ret ?_
      simp [h1, h2]

theorem ccmp_u64_spec (m n : Nat) : Spec Try.prog f_cmp_Compare_uint64 [.i .u64 (m : Int), .i .u64 (n : Int)] (· = [.pure (.i .i64 (Nm.cmpN m n))]) := by
  refine spec_at Try.func142 ok_cmp_Compare_uint64 [] rfl (by simp) ?_
  unfold sc_cmp_Compare_uint64 Nm.cmpN
  refine WS_seq (WS_reg [] ?_)
  simp
  refine WS_seq (WS_reg [] ?_)
  simp
  refine callK (isNaN_u64_spec _) ?_
  simp
  refine WS_seq (WS_reg [] ?_)
  simp
  refine callK (isNaN_u64_spec _) ?_
  simp
  refine WS_seq (WS_seq (WS_reg [] ?_))
  simp
  refine WS_cond (t := false) (by simp) (fun h => by cases h) (fun _ => WS_skip ?_)
  simp
  refine WS_seq (WS_seq (WS_reg [] ?_))
  simp
  refine WS_cond (t := false) (by simp) (fun h => by cases h) (fun _ => WS_skip ?_)
  simp
  refine WS_seq (WS_seq (WS_reg [] ?_))
  simp
  by_cases h1 : m < n
  · refine WS_cond (t := true) (by simp [h1]) (fun _ => ?_) (fun h => by cases h)
    refine WS_seq (WS_reg [] ?_)
    simp
    refine WS_ret ?_
    simp [h1]
  · refine WS_cond (t := false) (by simp; omega) (fun h => by cases h) (fun _ => WS_skip ?_)
    simp
    refine WS_seq (WS_seq (WS_reg [] ?_))
    simp
    by_cases h2 : n < m
    · refine WS_cond (t := true) (by simp [h2]) (fun _ => ?_) (fun h => by cases h)
      refine WS_seq (WS_reg [] ?_)
      simp
      refine WS_ret ?_
      simp [h1, h2]
    · refine WS_cond (t := false) (by simp; omega) (fun h => by cases h) (fun _ => WS_skip ?_)
      simp
      refine WS_seq (WS_reg [] ?_)
      simp
      refine WS_ret ?_
      simp [h1, h2]

theorem ncmp_spec (a b : List Nat) (ha : Nm.Dl 18446744073709551616 a) (hb : Nm.Dl 18446744073709551616 b) (la : a.length ≤ 2 ^ 40) (lb : b.length ≤ 2 ^ 40) :
    Spec Try.prog f_nat_Cmp [U a, U b] (· = [.pure (.i .i64 (Nm.cmpN (Nm.val 18446744073709551616 a) (Nm.val 18446744073709551616 b)))]) := by
  refine spec_at Try.func44 ok_nat_Cmp [] rfl (by simp) ?_
  unfold sc_nat_Cmp
  have p1 := plain_spec a (by omega)
  have p2 := plain_spec b (by omega)
  have l1 := Nm.trim_length_le a
  have l2 := Nm.trim_length_le b
  rw [← Nm.dig_val (by omega) ha] at p1 l1
  rw [← Nm.dig_val (by omega) hb] at p2 l2
  obtain ⟨va, hva⟩ : ∃ v, v = Nm.val 18446744073709551616 a := ⟨_, rfl⟩
  obtain ⟨vb, hvb⟩ : ∃ v, v = Nm.val 18446744073709551616 b := ⟨_, rfl⟩
  rw [← hva] at p1 l1 ⊢
  rw [← hvb] at p2 l2 ⊢
  have d1 := Nm.dig_lt (B := 18446744073709551616) (by omega) va
  have d2 := Nm.dig_lt (B := 18446744073709551616) (by omega) vb
  have v1 := Nm.val_dig (B := 18446744073709551616) (by omega) va
  have v2 := Nm.val_dig (B := 18446744073709551616) (by omega) vb
  have hlt1 : (Nm.dig 18446744073709551616 va).length < (Nm.dig 18446744073709551616 vb).length → va < vb := fun h => by
    by_cases hle : vb ≤ va
    · have := Nm.dig_length_mono (B := 18446744073709551616) (by omega) hle; omega
    · omega
  have hlt2 : (Nm.dig 18446744073709551616 vb).length < (Nm.dig 18446744073709551616 va).length → vb < va := fun h => by
    by_cases hle : va ≤ vb
    · have := Nm.dig_length_mono (B := 18446744073709551616) (by omega) hle; omega
    · omega
  obtain ⟨x, hx⟩ : ∃ x, x = Nm.dig 18446744073709551616 va := ⟨_, rfl⟩
  obtain ⟨y, hy⟩ : ∃ y, y = Nm.dig 18446744073709551616 vb := ⟨_, rfl⟩
  rw [← hx] at p1 l1 d1 v1 hlt1 hlt2
  rw [← hy] at p2 l2 d2 v2 hlt1 hlt2
  refine WS_seq (WS_reg [] ?_)
  simp
  refine WS_seq (WS_reg [] ?_)
  simp
  refine callK p1 ?_
  simp
  refine callK p2 ?_
  simp
  refine WS_seq (WS_seq (WS_reg [] ?_))
  simp [U]
  by_cases hl : x.length = y.length
  · refine WS_cond (t := false) (by simp [hl]) (fun h => by cases h) (fun _ => WS_skip ?_)
    simp
    have hc := Nm.cmpF_val (B := 18446744073709551616) (by omega) d1 d2 x.length
    rw [Nm.take_all (by omega), Nm.take_all (by omega), v1, v2] at hc
    rw [← hc]
    obtain ⟨n, hn⟩ : ∃ n, n = x.length := ⟨_, rfl⟩
    rw [← hn] at hl l1 ⊢
    have w0 : IntKind.i64.wrap ((n : Int) - 1) = (n : Int) - 1 := i64_int _ (by omega) (by omega)
    refine WS_seq (WS_seq (WS_reg [] ?_))
    simp [← hn, w0]
    refine WS_block (WS_loop (fun S => ∃ k : Nat, k ≤ n ∧ S.σ 0 = .p (.sl none (uL x)) ∧ S.σ 1 = .p (.sl none (uL y)) ∧ S.σ 5 = .p (.i .i64 ((k : Int) - 1)) ∧ Nm.cmpF x y n = Nm.cmpF x y k) (fun S => match S.σ 5 with | .p (.i _ n) => (n + 1).toNat | _ => 0) ⟨n, by omega, by simp, by simp, by simp, rfl⟩ ?_)
    rintro S ⟨k, hk, h0, h1, h5, hcm⟩
    refine WS_seq (WS_seq (WS_reg [] ?_))
    simp [h5]
    by_cases hp : 0 < k
    · obtain ⟨j, rfl⟩ : ∃ j, k = j + 1 := ⟨k - 1, by omega⟩
      have hj : ((j + 1 : Nat) : Int) - 1 = (j : Int) := by omega
      rw [hj] at h5
      have hjx : j < x.length := by omega
      have hjy : j < y.length := by omega
      refine WS_cond (t := true) (by simp; omega) (fun _ => ?_) (fun h => by cases h)
      refine WS_skip ?_
      simp
      obtain ⟨p, hpd⟩ : ∃ p, p = x[j] := ⟨_, rfl⟩
      obtain ⟨q, hqd⟩ : ∃ q, q = y[j] := ⟨_, rfl⟩
      have hF : Nm.cmpF x y (j + 1) = if p < q then -1 else if p > q then 1 else Nm.cmpF x y j := by simp [Nm.cmpF, List.getD, hjx, hjy, hpd, hqd]
      have hF' : p ≠ q → Nm.cmpF x y (j + 1) = Nm.cmpN p q := fun hne => by
        rw [hF]; unfold Nm.cmpN
        by_cases hlt : p < q
        · rw [if_pos hlt, if_pos hlt]
        · rw [if_neg hlt, if_neg hlt, if_pos (by omega), if_pos (by omega)]
      refine WS_seq (WS_block (WS_seq (WS_regD [] ?_)))
      simp [h0, h1, h5, hjx, hjy, ← hpd, ← hqd]
      refine ⟨rfl, ?_⟩
      by_cases heq : p = q
      · refine WS_cond (t := false) (by simp [heq]) (fun h => by cases h) (fun _ => WS_skip ?_)
        simp
        have w1 : IntKind.i64.wrap ((j : Int) - 1) = (j : Int) - 1 := i64_int _ (by omega) (by omega)
        refine WS_reg [] ?_
        simp [h0, h1, h5, w1]
        refine ⟨j, by omega, rfl, ?_⟩
        rw [hcm, hF, if_neg (by omega), if_neg (by omega)]
      · refine WS_cond (t := true) (by simp; omega) (fun _ => ?_) (fun h => by cases h)
        refine WS_seq (WS_regD [] ?_)
        simp [h0, h1, h5, hjx, hjy, ← hpd, ← hqd]
        refine callD (ccmp_u64_spec p q) rfl ?_
        simp
        refine ⟨rfl, ?_⟩
        refine WS_ret ?_
        simp [hcm, hF' heq]
    · have hk0 : k = 0 := by omega
      subst hk0
      refine WS_cond (t := false) (by simp) (fun h => by cases h) (fun _ => ?_)
      refine WS_exit ?_
      simp
      refine WS_seq (WS_reg [] ?_)
      simp
      refine WS_ret ?_
      simp [hcm, Nm.cmpF]
  · refine WS_cond (t := true) (by simp; omega) (fun _ => ?_) (fun h => by cases h)
    refine WS_seq (WS_reg [] ?_)
    simp
    refine callK (ccmp_int_spec x.length y.length) ?_
    simp
    refine WS_ret ?_
    simp
    unfold Nm.cmpN
    by_cases h1 : x.length < y.length
    · rw [if_pos h1, if_pos (hlt1 h1)]
    · have h2 := hlt2 (by omega)
      rw [if_neg h1, if_pos (by omega), if_neg (by omega), if_pos h2]

/-! ### bits -/

def len8T : List UInt8 := [0, 1, 2, 2, 3, 3, 3, 3, 4, 4, 4, 4, 4, 4, 4, 4, 5, 5, 5, 5, 5, 5, 5, 5, 5, 5, 5, 5, 5, 5, 5, 5, 6, 6, 6, 6, 6, 6, 6, 6, 6, 6, 6, 6, 6, 6, 6, 6, 6, 6, 6, 6, 6, 6, 6, 6, 6, 6, 6, 6, 6, 6, 6, 6, 7, 7, 7, 7, 7, 7, 7, 7, 7, 7, 7, 7, 7, 7, 7, 7, 7, 7, 7, 7, 7, 7, 7, 7, 7, 7, 7, 7, 7, 7, 7, 7, 7, 7, 7, 7, 7, 7, 7, 7, 7, 7, 7, 7, 7, 7, 7, 7, 7, 7, 7, 7, 7, 7, 7, 7, 7, 7, 7, 7, 7, 7, 7, 7, 8, 8, 8, 8, 8, 8, 8, 8, 8, 8, 8, 8, 8, 8, 8, 8, 8, 8, 8, 8, 8, 8, 8, 8, 8, 8, 8, 8, 8, 8, 8, 8, 8, 8, 8, 8, 8, 8, 8, 8, 8, 8, 8, 8, 8, 8, 8, 8, 8, 8, 8, 8, 8, 8, 8, 8, 8, 8, 8, 8, 8, 8, 8, 8, 8, 8, 8, 8, 8, 8, 8, 8, 8, 8, 8, 8, 8, 8, 8, 8, 8, 8, 8, 8, 8, 8, 8, 8, 8, 8, 8, 8, 8, 8, 8, 8, 8, 8, 8, 8, 8, 8, 8, 8, 8, 8, 8, 8, 8, 8, 8, 8, 8, 8, 8, 8, 8, 8, 8, 8, 8, 8, 8, 8, 8, 8, 8, 8]
theorem len8T_eq : ∀ n : Fin 256, ((len8T[n.val]?).getD 0).toNat = Lib.bitLen n.val := by decide +kernel
theorem len8T_size : len8T.length = 256 := by decide +kernel
theorem bitLen_8 : ∀ n : Fin 256, Lib.bitLen n.val ≤ 8 := by decide +kernel

theorem bitLen_zero : Lib.bitLen 0 = 0 := by decide +kernel

theorem bitLen_spec : ∀ (x : Nat), x ≠ 0 → x < 2 ^ 64 → x < 2 ^ Lib.bitLen x ∧ 2 ^ Lib.bitLen x ≤ 2 * x := by
  intro x
  induction x using Nat.strongRecOn with
  | _ x ih =>
    intro h0 hx
    rw [Lib.bitLen_half x h0 hx, Nat.add_comm, Nat.pow_succ]
    by_cases h1 : x / 2 = 0
    · rw [h1, bitLen_zero]; omega
    · have := ih (x / 2) (by omega) h1 (by omega)
      omega

def bl (n : Nat) : Nat := if n = 0 then 0 else Nat.log2 n + 1

theorem bl_of {n k : Nat} (h0 : n ≠ 0) (h1 : n < 2 ^ k) (h2 : 2 ^ k ≤ 2 * n) : k = bl n := by
  unfold bl
  rw [if_neg h0]
  cases k with
  | zero => simp at h1; omega
  | succ k =>
    have e1 : k ≤ n.log2 := (Nat.le_log2 h0).2 (by rw [Nat.pow_succ] at h2; omega)
    have e2 : n.log2 < k + 1 := (Nat.log2_lt h0).2 h1
    omega

theorem bl_limbs {l : List Nat} (hd : Nm.Dl 18446744073709551616 l) (hp : 0 < l.length) {x : Nat} (hx : l.getD (l.length - 1) 0 = x) (h0 : x ≠ 0) : 64 * (l.length - 1) + Lib.bitLen x = bl (Nm.val 18446744073709551616 l) := by
  have hxl : x < 2 ^ 64 := by have := hd.get (by omega) (l.length - 1); rw [hx] at this; exact this
  obtain ⟨b1, b2⟩ := bitLen_spec x h0 hxl
  have hs := Nm.val_take_succ 18446744073709551616 l (l.length - 1)
  rw [show l.length - 1 + 1 = l.length by omega, List.take_length, hx] at hs
  have ht := Nm.val_lt (hd.take (l.length - 1))
  have htl : (l.take (l.length - 1)).length = l.length - 1 := by simp
  rw [htl] at ht
  have hB : (18446744073709551616 : Nat) ^ (l.length - 1) = 2 ^ (64 * (l.length - 1)) := by rw [show (18446744073709551616 : Nat) = 2 ^ 64 from rfl, ← Nat.pow_mul]
  rw [hB] at hs ht
  have hpp : 0 < 2 ^ (64 * (l.length - 1)) := Nat.pow_pos (by omega)
  refine bl_of ?_ ?_ ?_
  · rw [hs]
    have := Nat.mul_pos hpp (Nat.pos_of_ne_zero h0)
    omega
  · rw [hs, Nat.pow_add]
    calc _ < 2 ^ (64 * (l.length - 1)) * (x + 1) := by rw [Nat.mul_add, Nat.mul_one]; omega
      _ ≤ _ := Nat.mul_le_mul_left _ b1
  · rw [hs, Nat.pow_add]
    have := Nat.mul_le_mul_left (2 ^ (64 * (l.length - 1))) b2
    rw [Nat.mul_left_comm] at this
    omega

theorem len64_spec (x : Nat) (hx : x < 18446744073709551616) : Spec Try.prog f_bits_Len64 [.i .u64 (x : Int)] (· = [.pure (.i .i64 ((Lib.bitLen x : Nat) : Int))]) := by
  refine spec_at Try.func144 ok_bits_Len64 [] rfl (by simp) ?_
  unfold sc_bits_Len64
  obtain ⟨T, hT⟩ : ∃ T : ByteArray, T = ⟨⟨len8T⟩⟩ := ⟨_, rfl⟩
  have hTs : T.size = 256 := by rw [hT]; exact len8T_size
  have hTl : ∀ k : Nat, T.data[k]? = len8T[k]? := fun k => by rw [hT]; exact List.getElem?_toArray
  unfold len8T at hT
  rw [← hT]
  clear hT
  refine WS_seq (WS_reg [] ?_)
  simp
  refine WS_cut (fun S => ∃ y n : Nat, S.σ 0 = .p (.i .u64 (y : Int)) ∧ S.σ 2 = .p (.i .i64 (n : Int)) ∧ y < 2 ^ 32 ∧ n ≤ 32 ∧ n + Lib.bitLen y = Lib.bitLen x) ?_ ?_
  · refine WS_seq (WS_reg [] ?_)
    simp
    by_cases h : 4294967296 ≤ x
    · have e1 := abin_shr (k := .u64) x 32 32 rfl (by omega)
      have hb := Lib.bitLen_shift32 x h hx
      refine WS_cond (t := true) (by simp; omega) (fun _ => ?_) (fun h => by cases h)
      obtain ⟨y, hy⟩ : ∃ y, y = x / 2 ^ 32 := ⟨_, rfl⟩
      have hy' : y = x / 4294967296 := hy
      rw [← hy] at e1
      rw [← hy'] at hb
      refine WS_seq (WS_reg [] ?_)
      simp [e1]
      refine WS_reg [] ?_
      simp
      exact ⟨y, rfl, 32, rfl, by omega, by omega, by omega⟩
    · refine WS_cond (t := false) (by simp; omega) (fun h => by cases h) (fun _ => WS_skip ?_)
      simp
      exact ⟨x, rfl, 0, rfl, by omega, by omega, by omega⟩
  rintro S ⟨y, n, h0, h2, hy, hn, hb⟩
  refine WS_cut (fun S => ∃ y n : Nat, S.σ 0 = .p (.i .u64 (y : Int)) ∧ S.σ 2 = .p (.i .i64 (n : Int)) ∧ y < 2 ^ 16 ∧ n ≤ 48 ∧ n + Lib.bitLen y = Lib.bitLen x) ?_ ?_
  · refine WS_seq (WS_reg [] ?_)
    simp [h0]
    by_cases h : 65536 ≤ y
    · have e1 := abin_shr (k := .u64) y 16 16 rfl (by omega)
      have hb2 := Lib.bitLen_shift16 y h (by omega)
      have w1 : IntKind.i64.wrap ((n : Int) + 16) = (n : Int) + 16 := i64_int _ (by omega) (by omega)
      refine WS_cond (t := true) (by simp; omega) (fun _ => ?_) (fun h => by cases h)
      obtain ⟨z, hz⟩ : ∃ z, z = y / 2 ^ 16 := ⟨_, rfl⟩
      have hz' : z = y / 65536 := hz
      rw [← hz] at e1
      rw [← hz'] at hb2
      refine WS_seq (WS_reg [] ?_)
      simp [h0, e1]
      refine WS_reg [] ?_
      simp [h2, w1]
      exact ⟨z, rfl, n + 16, rfl, by omega, by omega, by omega⟩
    · refine WS_cond (t := false) (by simp; omega) (fun h => by cases h) (fun _ => WS_skip ?_)
      simp [h0, h2]
      exact ⟨y, rfl, n, rfl, by omega, by omega, by omega⟩
  clear h0 h2 hy hn hb y n S
  rintro S ⟨y, n, h0, h2, hy, hn, hb⟩
  refine WS_cut (fun S => ∃ y n : Nat, S.σ 0 = .p (.i .u64 (y : Int)) ∧ S.σ 2 = .p (.i .i64 (n : Int)) ∧ y < 2 ^ 8 ∧ n ≤ 56 ∧ n + Lib.bitLen y = Lib.bitLen x) ?_ ?_
  · refine WS_seq (WS_reg [] ?_)
    simp [h0]
    by_cases h : 256 ≤ y
    · have e1 := abin_shr (k := .u64) y 8 8 rfl (by omega)
      have hb2 := Lib.bitLen_shift8 y h (by omega)
      have w1 : IntKind.i64.wrap ((n : Int) + 8) = (n : Int) + 8 := i64_int _ (by omega) (by omega)
      refine WS_cond (t := true) (by simp; omega) (fun _ => ?_) (fun h => by cases h)
      obtain ⟨z, hz⟩ : ∃ z, z = y / 2 ^ 8 := ⟨_, rfl⟩
      have hz' : z = y / 256 := hz
      rw [← hz] at e1
      rw [← hz'] at hb2
      refine WS_seq (WS_reg [] ?_)
      simp [h0, e1]
      refine WS_reg [] ?_
      simp [h2, w1]
      exact ⟨z, rfl, n + 8, rfl, by omega, by omega, by omega⟩
    · refine WS_cond (t := false) (by simp; omega) (fun h => by cases h) (fun _ => WS_skip ?_)
      simp [h0, h2]
      exact ⟨y, rfl, n, rfl, by omega, by omega, by omega⟩
  clear h0 h2 hy hn hb y n S
  rintro S ⟨y, n, h0, h2, hy, hn, hb⟩
  have wt := len8T_eq ⟨y, by omega⟩
  have wl := bitLen_8 ⟨y, by omega⟩
  simp only at wt wl
  obtain ⟨z, hz⟩ : ∃ z, z = Lib.bitLen y := ⟨_, rfl⟩
  rw [← hz] at hb wt wl
  have w0 : IntKind.u8.wrap (y : Int) = (y : Int) := Go.IntWalk.u8_in _ (by omega)
  have w1 : IntKind.i64.wrap (z : Int) = (z : Int) := i64_nat z (by omega)
  have w2 : IntKind.i64.wrap ((n : Int) + z) = (n : Int) + z := i64_int _ (by omega) (by omega)
  have hTg : (T.data[y]?.getD 0).toNat = z := by rw [hTl y, ← wt]
  have hy256 : y < 256 := by omega
  have hy256' : (y : Int) < 256 := by omega
  refine WS_seq (WS_reg [] ?_)
  simp [h0, h2, w0, hTs, hTg, hy256', w1, w2]
  refine WS_ret ?_
  simp
  omega

theorem nbits_spec (a : List Nat) (ha : Nm.Dl 18446744073709551616 a) (la : a.length ≤ 2 ^ 40) : Spec Try.prog f_nat_Bits [U a] (· = [.pure (.i .i64 ((bl (Nm.val 18446744073709551616 a) : Nat) : Int))]) := by
  refine spec_at Try.func48 ok_nat_Bits [] rfl (by simp) ?_
  unfold sc_nat_Bits
  have p1 := plain_spec a (by omega)
  have l1 := Nm.trim_length_le a
  have hv := Nm.trim_val 18446744073709551616 a
  have hd : Nm.Dl 18446744073709551616 (Nm.trim a) := by rw [Nm.trim_take]; exact ha.take _
  have ht : Nm.trim (Nm.trim a) = Nm.trim a := by rw [← Nm.dig_val (by omega) ha, Nm.trim_dig (by omega)]
  obtain ⟨x, hx⟩ : ∃ x, x = Nm.trim a := ⟨_, rfl⟩
  rw [← hx] at p1 l1 hv hd ht
  rw [← hv]
  refine WS_seq (WS_reg [] ?_)
  simp
  refine WS_seq (WS_reg [] ?_)
  simp
  refine callK p1 ?_
  simp
  refine WS_seq (WS_seq (WS_reg [] ?_))
  simp [U]
  by_cases h : x = []
  · subst h
    refine WS_cond (t := true) (by simp) (fun _ => ?_) (fun h => by cases h)
    refine WS_seq (WS_reg [] ?_)
    simp
    refine WS_ret ?_
    simp [Nm.val, bl]
  · have hp : 0 < x.length := List.length_pos_iff.2 h
    have hlt : x.length - 1 < x.length := by omega
    have hw := i64_pred x.length (by omega) hp
    have hlast : x[x.length - 1] ≠ 0 := fun h0 => by
      have := trim_take_zero hp (by simp [List.getD, hlt, h0])
      have h2 := Nm.trim_length_le (x.take (x.length - 1))
      rw [this, ht] at h2
      simp at h2
      omega
    have hbl := bl_limbs hd hp (x := x[x.length - 1]) (by simp [List.getD, hlt]) hlast
    have hx64 := hd _ (List.getElem_mem hlt)
    have hbl64 : Lib.bitLen x[x.length - 1] ≤ 64 := by
      by_cases h65 : Lib.bitLen x[x.length - 1] ≤ 64
      · exact h65
      · have := (bitLen_spec x[x.length - 1] hlast hx64).2
        have h3 : 2 ^ 65 ≤ 2 ^ Lib.bitLen x[x.length - 1] := Nat.pow_le_pow_right (by omega) (by omega)
        omega
    obtain ⟨k, hk⟩ : ∃ k, k = Lib.bitLen x[x.length - 1] := ⟨_, rfl⟩
    rw [← hk] at hbl hbl64
    have e1 : IntKind.i64.wrap (64 * ((x.length - 1 : Nat) : Int)) = ((64 * (x.length - 1) : Nat) : Int) := by rw [i64_int _ (by omega) (by omega)]; omega
    obtain ⟨m, hm⟩ : ∃ m, m = 64 * (x.length - 1) := ⟨_, rfl⟩
    rw [← hm] at hbl e1
    have e2 : IntKind.i64.wrap ((m : Int) + k) = ((m + k : Nat) : Int) := i64_addn m k (by omega)
    rw [hbl] at e2
    refine WS_cond (t := false) (by simp [h]) (fun h => by cases h) (fun _ => WS_skip ?_)
    simp
    refine WS_seq (WS_reg [] ?_)
    simp [hw, hlt, e1]
    refine callK (len64_spec x[x.length - 1] hx64) ?_
    rw [← hk]
    simp [e2]
    refine WS_ret ?_
    simp

theorem rbits_spec (a : List Nat) (ha : Nm.Dl 18446744073709551616 a) (la : a.length ≤ 2 ^ 40) : Spec Try.prog f_ref01_Bits [U a] (· = [.pure (.i .i64 ((bl (Nm.val 18446744073709551616 a) : Nat) : Int))]) := by
  refine spec_at Try.func49 ok_ref01_Bits [] rfl (by simp) ?_
  unfold sc_ref01_Bits
  have p1 := rnorm_spec a (by omega)
  have l1 := Nm.trim_length_le a
  have hv := Nm.trim_val 18446744073709551616 a
  have hd : Nm.Dl 18446744073709551616 (Nm.trim a) := by rw [Nm.trim_take]; exact ha.take _
  have ht : Nm.trim (Nm.trim a) = Nm.trim a := by rw [← Nm.dig_val (by omega) ha, Nm.trim_dig (by omega)]
  obtain ⟨x, hx⟩ : ∃ x, x = Nm.trim a := ⟨_, rfl⟩
  rw [← hx] at p1 l1 hv hd ht
  rw [← hv]
  refine WS_seq (WS_reg [] ?_)
  simp
  refine WS_seq (WS_reg [] ?_)
  simp
  refine callK p1 ?_
  simp
  refine WS_seq (WS_seq (WS_reg [] ?_))
  simp [U]
  by_cases h : x = []
  · subst h
    refine WS_cond (t := true) (by simp) (fun _ => ?_) (fun h => by cases h)
    refine WS_seq (WS_reg [] ?_)
    simp
    refine WS_ret ?_
    simp [Nm.val, bl]
  · have hp : 0 < x.length := List.length_pos_iff.2 h
    have hlt : x.length - 1 < x.length := by omega
    have hw := i64_pred x.length (by omega) hp
    have hlast : x[x.length - 1] ≠ 0 := fun h0 => by
      have := trim_take_zero hp (by simp [List.getD, hlt, h0])
      have h2 := Nm.trim_length_le (x.take (x.length - 1))
      rw [this, ht] at h2
      simp at h2
      omega
    have hbl := bl_limbs hd hp (x := x[x.length - 1]) (by simp [List.getD, hlt]) hlast
    have hx64 := hd _ (List.getElem_mem hlt)
    have hbl64 : Lib.bitLen x[x.length - 1] ≤ 64 := by
      by_cases h65 : Lib.bitLen x[x.length - 1] ≤ 64
      · exact h65
      · have := (bitLen_spec x[x.length - 1] hlast hx64).2
        have h3 : 2 ^ 65 ≤ 2 ^ Lib.bitLen x[x.length - 1] := Nat.pow_le_pow_right (by omega) (by omega)
        omega
    have e1 : IntKind.i64.wrap (64 * ((x.length - 1 : Nat) : Int)) = ((64 * (x.length - 1) : Nat) : Int) := by rw [i64_int _ (by omega) (by omega)]; omega
    obtain ⟨t, htd⟩ : ∃ t, t = x[x.length - 1] := ⟨_, rfl⟩
    rw [← htd] at hbl hx64 hbl64
    obtain ⟨m, hm⟩ : ∃ m, m = 64 * (x.length - 1) := ⟨_, rfl⟩
    rw [← hm] at hbl e1
    refine WS_cond (t := false) (by simp [h]) (fun h => by cases h) (fun _ => WS_skip ?_)
    simp
    refine WS_seq (WS_reg [] ?_)
    simp [hw, e1]
    refine WS_seq (WS_seq (WS_reg [] ?_))
    simp [hw, hlt, ← htd]
    refine WS_block (WS_loop (fun S => ∃ y j : Nat, S.σ 4 = .p (.i .i64 ((m + j : Nat) : Int)) ∧ S.σ 5 = .p (.i .u64 (y : Int)) ∧ y < 18446744073709551616 ∧ j ≤ 64 ∧ j + Lib.bitLen y = Lib.bitLen t) (fun S => match S.σ 5 with | .p (.i _ k) => k.toNat | _ => 0) ⟨t, 0, by simp, by simp, hx64, by omega, by omega⟩ ?_)
    rintro S ⟨y, j, h4, h5, hy, hj, hb⟩
    refine WS_seq (WS_seq (WS_reg [] ?_))
    simp [h5]
    by_cases hy0 : 0 < y
    · have hh := Lib.bitLen_half y (by omega) hy
      have w1 := i64_succ (m + j) (by omega)
      have w2 : (y : Int).tdiv 2 = ((y / 2 : Nat) : Int) := tdiv_nat y 2
      have w3 : IntKind.u64.wrap ((y / 2 : Nat) : Int) = ((y / 2 : Nat) : Int) := u64_fit _ (by omega)
      obtain ⟨z, hz⟩ : ∃ z, z = y / 2 := ⟨_, rfl⟩
      rw [← hz] at hh w2 w3
      obtain ⟨q, hq⟩ : ∃ q, q = m + j := ⟨_, rfl⟩
      rw [← hq] at h4 w1
      refine WS_cond (t := true) (by simp; omega) (fun _ => ?_) (fun h => by cases h)
      refine WS_skip ?_
      simp
      refine WS_seq (WS_block (WS_reg [] ?_))
      simp [h4, w1]
      refine WS_reg [] ?_
      simp [h5, w2, w3]
      refine ⟨⟨z, j + 1, by omega, rfl, by omega, by omega, by omega⟩, by omega⟩
    · have hy00 : y = 0 := by omega
      subst hy00
      rw [bitLen_zero] at hb
      refine WS_cond (t := false) (by simp) (fun h => by cases h) (fun _ => ?_)
      refine WS_exit ?_
      simp
      have : m + j = bl (Nm.val 18446744073709551616 x) := by omega
      rw [this] at h4
      refine WS_seq (WS_reg [] ?_)
      simp [h4]
      refine WS_ret ?_
      simp

theorem law_NatAdds (a b : List Nat) (ha : Nm.Dl 18446744073709551616 a) (hb : Nm.Dl 18446744073709551616 b) (la : a.length ≤ 2 ^ 30) (lb : b.length ≤ 2 ^ 30) :
    Spec Try.prog f_law01_NatAdds [U a, U b] (· = [.pure (.b true)]) := by
  refine spec_at Try.func5 ok_law01_NatAdds [] rfl (by simp) ?_
  unfold sc_law01_NatAdds
  have d1 : Nm.Dl 18446744073709551616 [1] := Nm.Dl.cons (by omega) (Nm.Dl.nil _)
  have hva := Nm.val_lt ha
  have hvb := Nm.val_lt hb
  have s1 := sub_spec a b ha hb (by omega) (by omega)
  have s2 := rsub_spec a b ha hb (by omega) (by omega)
  have hl1 := Nm.dig_length_le (B := 18446744073709551616) (by omega) (n := Nm.val 18446744073709551616 a - Nm.val 18446744073709551616 b) (k := a.length) (by omega)
  have hl2 := Nm.dig_length_le (B := 18446744073709551616) (by omega) (n := Nm.val 18446744073709551616 a + Nm.val 18446744073709551616 b) (k := a.length + b.length + 1) (by
    have p1 : 18446744073709551616 ^ a.length ≤ 18446744073709551616 ^ (a.length + b.length) := Nat.pow_le_pow_right (by omega) (by omega)
    have p2 : 18446744073709551616 ^ b.length ≤ 18446744073709551616 ^ (a.length + b.length) := Nat.pow_le_pow_right (by omega) (by omega)
    rw [Nat.pow_succ]; omega)
  have hl3 := Nm.trim_length_le a
  have hsub : ∃ L e, Spec Try.prog f_nat_Sub [U a, U b] (· = [.pure (U L), .pure (.i .i64 e)]) ∧ Spec Try.prog f_ref01_Sub [U a, U b] (· = [.pure (U L), .pure (.i .i64 e)]) ∧ L.length ≤ 2 ^ 40 := by
    by_cases h : Nm.val 18446744073709551616 b ≤ Nm.val 18446744073709551616 a
    · rw [if_pos h] at s1 s2
      exact ⟨_, _, s1, s2, by omega⟩
    · rw [if_neg h] at s1 s2
      exact ⟨[], 1, s1, s2, by simp⟩
  obtain ⟨L, e, s1, s2, hL⟩ := hsub
  have hone : Nm.dig 18446744073709551616 (Nm.val 18446744073709551616 [1] + Nm.val 18446744073709551616 []) = [1] := by decide +kernel
  have a1 := add_spec [1] [] d1 (Nm.Dl.nil _) (by simp) (by simp)
  rw [hone] at a1
  refine WS_seq (WS_reg [] ?_)
  simp
  refine WS_seq (WS_reg [] ?_)
  simp
  refine callK s1 ?_
  simp
  refine WS_seq (WS_reg [] ?_)
  simp
  refine callK s2 ?_
  simp
  refine WS_seq (WS_reg [] ?_)
  simp
  refine callK a1 ?_
  simp
  refine callK (same_spec [1] (by simp)) ?_
  simp
  refine callK (add_spec a b ha hb (by omega) (by omega)) ?_
  simp
  refine callK (radd_spec a b ha hb (by omega) (by omega)) ?_
  simp
  refine callK (same_spec _ (by omega)) ?_
  simp
  refine callK (same_spec _ hL) ?_
  simp
  refine callK (ncmp_spec a b ha hb (by omega) (by omega)) ?_
  simp
  refine callK (rcmp_spec a b ha hb (by omega) (by omega)) ?_
  simp
  refine callK (nnorm_spec a (by omega)) ?_
  simp
  refine callK (rnorm_spec a (by omega)) ?_
  simp
  refine callK (same_spec _ (by omega)) ?_
  simp
  refine callK (nbits_spec a ha (by omega)) ?_
  simp
  refine callK (rbits_spec a ha (by omega)) ?_
  simp
  refine WS_ret ?_
  simp
end Go.Vw
