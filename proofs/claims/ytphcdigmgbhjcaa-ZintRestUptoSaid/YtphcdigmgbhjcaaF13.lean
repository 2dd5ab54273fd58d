/- Functions of nat: products; the statement NatMultiplies. -/
import Derived.Test.YtphcdigmgbhjcaaF9
import Derived.Test.YtphcdigmgbhjcaaF3
import Derived.Test.YtphcdigmgbhjcaaN8
import Derived.Lib.Mul64
set_option linter.unusedVariables false
set_option linter.unusedSimpArgs false
namespace Go.Vw
open Go.Proofs

attribute [local simp] RunL_cons RunL_nil AOp_none AOp_some acK_v acK_call agK_tt agK_ff agK_tf agK_ft agK_tup agK_i aop aun St.ev St.heap St.put thenQ blockQ upd_apply S0 argSlot lowV V.cells V.isAgg V.fits V.part partOk plains St.ret retSV svOf svsOf retQ retP retAll retOne uL_length uL_get? uL_get St.elems retH ownIdx ownAt
attribute [local simp] RunD_none RunD_some RunD_nil RunE_any acD_v acD_call agD_tt agD_ff agD_tf agD_ft agD_tup entsOf svref SO.opds SO.writes SO.makes callEnt pureSV pureOf RV.isOwn
attribute [local simp] abin_add abin_sub abin_mul abin_quo abin_rem abin_eql abin_neq abin_lss abin_leq abin_gtr abin_geq
attribute [local simp] uL_snoc uL_set uL_take uL_drop uL_append uL_replicate uL_nil
attribute [local simp] acK_callG acD_callG St.giv gsSV gvSV retEnts ownEnts SO.still
attribute [local simp] S0G argSlotG givSV retQG retPG retAllG retOneG HObj.width V.scalar trimQ V.byte
theorem mul64_spec (x y : Nat) (hx : x < 18446744073709551616) (hy : y < 18446744073709551616) : Spec Try.prog f_bits_Mul64 [.i .u64 (x : Int), .i .u64 (y : Int)] (· = [.pure (.i .u64 ((x * y / 18446744073709551616 : Nat) : Int)), .pure (.i .u64 ((x * y % 18446744073709551616 : Nat) : Int))]) := by
  refine spec_at Try.func165 ok_bits_Mul64 [] rfl (by simp) ?_
  unfold sc_bits_Mul64
  obtain ⟨bd, bt, bw, hhi⟩ := Lib.mul64_hi x y hx hy
  have m1 := abin_mask32 x hx
  have m2 := abin_shr (k := .u64) x 32 32 rfl (by omega)
  have m3 := abin_mask32 y hy
  have m4 := abin_shr (k := .u64) y 32 32 rfl (by omega)
  have hlo := u64_mul x y
  have c11 := Lib.half_mul_le (a := x / 4294967296) (b := y / 4294967296) (by omega) (by omega)
  have c10 := Lib.half_mul_le (a := x / 4294967296) (b := y % 4294967296) (by omega) (by omega)
  have c01 := Lib.half_mul_le (a := x % 4294967296) (b := y / 4294967296) (by omega) (by omega)
  obtain ⟨x1, hx1⟩ : ∃ z, z = x / 2 ^ 32 := ⟨_, rfl⟩
  obtain ⟨y1, hy1⟩ : ∃ z, z = y / 2 ^ 32 := ⟨_, rfl⟩
  have hx1' : x1 = x / 4294967296 := hx1
  have hy1' : y1 = y / 4294967296 := hy1
  obtain ⟨x0, hx0⟩ : ∃ z, z = x % 4294967296 := ⟨_, rfl⟩
  obtain ⟨y0, hy0⟩ : ∃ z, z = y % 4294967296 := ⟨_, rfl⟩
  rw [← hx0] at m1
  rw [← hx1] at m2
  rw [← hy0] at m3
  rw [← hy1] at m4
  rw [← hx0, ← hy0] at bd
  rw [← hx0, ← hy0, ← hx1'] at bt
  rw [← hx0, ← hy0, ← hx1', ← hy1'] at bw hhi
  rw [← hx1', ← hy1'] at c11
  rw [← hx1', ← hy0] at c10
  rw [← hx0, ← hy1'] at c01
  have n00 := u64_mulf x0 y0 bd
  have n10 := u64_mulf x1 y0 (by omega)
  have n01 := u64_mulf x0 y1 (by omega)
  have n11 := u64_mulf x1 y1 (by omega)
  obtain ⟨p00, h00⟩ : ∃ z, z = x0 * y0 := ⟨_, rfl⟩
  obtain ⟨p10, h10⟩ : ∃ z, z = x1 * y0 := ⟨_, rfl⟩
  obtain ⟨p01, h01⟩ : ∃ z, z = x0 * y1 := ⟨_, rfl⟩
  obtain ⟨p11, h11⟩ : ∃ z, z = x1 * y1 := ⟨_, rfl⟩
  rw [← h00] at n00 bd bt bw hhi
  rw [← h10] at n10 bt bw hhi c10
  rw [← h01] at n01 bw hhi c01
  rw [← h11] at n11 hhi c11
  have q1 := abin_shr (k := .u64) p00 32 32 rfl (by omega)
  obtain ⟨w, hw⟩ : ∃ z, z = p00 / 2 ^ 32 := ⟨_, rfl⟩
  have hw' : w = p00 / 4294967296 := hw
  rw [← hw] at q1
  rw [← hw'] at bt bw hhi
  have q2 := u64_addf p10 w bt
  obtain ⟨t, ht⟩ : ∃ z, z = p10 + w := ⟨_, rfl⟩
  rw [← ht] at q2 bt bw hhi
  have q3 := abin_mask32 t bt
  have q4 := abin_shr (k := .u64) t 32 32 rfl (by omega)
  obtain ⟨w1, hw1⟩ : ∃ z, z = t % 4294967296 := ⟨_, rfl⟩
  obtain ⟨w2, hw2⟩ : ∃ z, z = t / 2 ^ 32 := ⟨_, rfl⟩
  have hw2' : w2 = t / 4294967296 := hw2
  rw [← hw1] at q3 bw hhi
  rw [← hw2] at q4
  rw [← hw2'] at hhi
  have q5 := u64_addf w1 p01 bw
  obtain ⟨v, hv⟩ : ∃ z, z = w1 + p01 := ⟨_, rfl⟩
  rw [← hv] at q5 bw hhi
  have q6 := abin_shr (k := .u64) v 32 32 rfl (by omega)
  obtain ⟨u, hu⟩ : ∃ z, z = v / 2 ^ 32 := ⟨_, rfl⟩
  have hu' : u = v / 4294967296 := hu
  rw [← hu] at q6
  rw [← hu'] at hhi
  have q7 := u64_addf p11 w2 (by omega)
  obtain ⟨r, hr⟩ : ∃ z, z = p11 + w2 := ⟨_, rfl⟩
  rw [← hr] at q7 hhi
  have q8 := u64_addf r u (by omega)
  rw [hhi] at q8
  obtain ⟨hi, hhid⟩ : ∃ z, z = x * y / 18446744073709551616 := ⟨_, rfl⟩
  obtain ⟨lo, hlod⟩ : ∃ z, z = x * y % 18446744073709551616 := ⟨_, rfl⟩
  rw [← hhid] at q8 ⊢
  rw [← hlod] at hlo ⊢
  refine WS_seq (WS_reg [] ?_)
  simp
  refine WS_seq (WS_reg [] ?_)
  simp [m1]
  refine WS_seq (WS_reg [] ?_)
  simp [m2]
  refine WS_seq (WS_reg [] ?_)
  simp [m3]
  refine WS_seq (WS_reg [] ?_)
  simp [m4]
  refine WS_seq (WS_reg [] ?_)
  simp [n00]
  refine WS_seq (WS_reg [] ?_)
  simp [n10, q1, q2]
  refine WS_seq (WS_reg [] ?_)
  simp [q3]
  refine WS_seq (WS_reg [] ?_)
  simp [q4]
  refine WS_seq (WS_reg [] ?_)
  simp [n01, q5]
  refine WS_seq (WS_reg [] ?_)
  simp [n11, q7, q6, q8]
  refine WS_seq (WS_reg [] ?_)
  simp [hlo]
  refine WS_ret ?_
  simp

theorem row1_spec (a : List Nat) (ha : Nm.Dl 18446744073709551616 a) (k c x : Nat) (hx : x < 18446744073709551616) (hk : k < a.length) (hc : c < 18446744073709551616) :
    Spec Try.prog f_nat_row_1 ([.i .i64 (k : Int), .i .u64 (c : Int)] ++ [.ref none (U a), .ref none (.i .u64 (x : Int))]) (· = [.pure (.i .u64 ((Nm.rowF 18446744073709551616 a x k c).1 : Nat)), .pure (.i .u64 ((Nm.rowF 18446744073709551616 a x k c).2 : Nat))]) := by
  refine spec_at Try.func164 ok_nat_row_1 [] rfl (by simp) ?_
  unfold sc_nat_row_1
  have hak : a[k] < 18446744073709551616 := ha _ (List.getElem_mem hk)
  have m := mul64_spec a[k] x hak hx
  have hb := Nm.row_carry (by omega) ha hx (k := k) hc
  have hg : a.getD k 0 = a[k] := by simp [List.getD, hk]
  have hR : Nm.rowF 18446744073709551616 a x k c = ((a[k] * x + c) % 18446744073709551616, (a[k] * x + c) / 18446744073709551616) := by rw [Nm.rowF, hg]
  rw [hg] at hb
  rw [hR]
  obtain ⟨p, hp⟩ : ∃ p, p = a[k] * x := ⟨_, rfl⟩
  rw [← hp] at m hb ⊢
  obtain ⟨hi, hhi⟩ : ∃ z, z = p / 18446744073709551616 := ⟨_, rfl⟩
  obtain ⟨lo, hlo⟩ : ∃ z, z = p % 18446744073709551616 := ⟨_, rfl⟩
  rw [← hhi, ← hlo] at m
  have ad := add64_spec lo c 0 (by omega)
  have r1 : (lo + c + 0) % 18446744073709551616 = (p + c) % 18446744073709551616 := by omega
  have hlt : (p + c) / 18446744073709551616 < 18446744073709551616 := Nat.div_lt_of_lt_mul hb
  obtain ⟨mo, hmo⟩ : ∃ z, z = (lo + c + 0) / 18446744073709551616 := ⟨_, rfl⟩
  have r2 : hi + mo = (p + c) / 18446744073709551616 := by omega
  rw [r1, ← hmo] at ad
  have q := u64_addf hi mo (by omega)
  rw [r2] at q
  obtain ⟨s, hs⟩ : ∃ z, z = (p + c) % 18446744073709551616 := ⟨_, rfl⟩
  obtain ⟨t, ht⟩ : ∃ z, z = (p + c) / 18446744073709551616 := ⟨_, rfl⟩
  rw [← hs] at ad ⊢
  rw [← ht] at q ⊢
  have ad' : Spec Try.prog 139 [.i .u64 lo, .i .u64 c, .i .u64 0] (· = [.pure (.i .u64 (s : Int)), .pure (.i .u64 (mo : Int))]) := ad
  refine WS_seq (WS_reg [] ?_)
  simp [U]
  refine WS_seq (WS_regD [] ?_)
  simp [hk]
  refine callD m rfl ?_
  simp
  refine ⟨rfl, ?_⟩
  refine WS_seq (WS_reg [] ?_)
  simp
  refine callK ad' ?_
  simp
  refine WS_seq (WS_reg [] ?_)
  simp [q]
  refine WS_ret ?_
  simp

theorem row_spec (a : List Nat) (ha : Nm.Dl 18446744073709551616 a) (x : Nat) (hx : x < 18446744073709551616) (hl : a.length ≤ 2 ^ 38) :
    Spec Try.prog f_nat_row [U a, .i .u64 (x : Int)] (· = [.pure (U (Nm.pad 18446744073709551616 (a.length + 1) (Nm.val 18446744073709551616 a * x)))]) := by
  refine spec_at Try.func145 ok_nat_row [] rfl (by simp) ?_
  unfold sc_nat_row
  obtain ⟨hr, hc⟩ := Nm.crun_row (by omega) ha hx
  have hcat := Nm.pad_cat (B := 18446744073709551616) (Nm.val 18446744073709551616 a * x) a.length hc
  have hlen := Nm.pad_length 18446744073709551616 a.length (Nm.val 18446744073709551616 a * x)
  rw [← hcat]
  obtain ⟨L, hL⟩ : ∃ L, L = Nm.pad 18446744073709551616 a.length (Nm.val 18446744073709551616 a * x) := ⟨_, rfl⟩
  obtain ⟨c, hcd⟩ : ∃ c, c = Nm.val 18446744073709551616 a * x / 18446744073709551616 ^ a.length := ⟨_, rfl⟩
  rw [← hL, ← hcd] at hr ⊢
  rw [← hL] at hlen
  refine WS_seq (WS_reg [] ?_)
  simp [U]
  refine WS_frz 2 2 none ?_
  simp [frzQ]
  refine WS_frz 3 3 none ?_
  simp [frzQ]
  refine WS_seq (WS_reg [] ?_)
  simp
  refine callK (carried_spec a.length (by omega) 164 [.ref none (U a), .ref none (.i .u64 (x : Int))] (Nm.rowF 18446744073709551616 a x) (· < 18446744073709551616) (by omega) (fun k c hk hc => ⟨row1_spec a ha k c x hx hk hc, Nat.div_lt_of_lt_mul (Nm.row_carry (by omega) ha hx hc)⟩)) ?_
  simp [hr]
  refine WS_seq (WS_reg [17] ?_)
  simp [hlen, take_all' hlen]
  refine ⟨by omega, ?_⟩
  refine WS_ret ?_
  simp
end Go.Vw
