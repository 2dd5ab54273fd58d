/- nat.Text of nought and of one digit. -/
import Derived.Test.YtphcdigmgbhjcaaF25
import Derived.Test.YtphcdigmgbhjcaaS2
set_option linter.unusedVariables false
set_option linter.unusedSimpArgs false
namespace Go.Vw
open Go.Proofs

attribute [local simp] RunL_cons RunL_nil AOp_none AOp_some acK_v acK_call agK_tt agK_ff agK_tf agK_ft agK_tup agK_i aop aun St.ev St.heap St.put thenQ blockQ upd_apply S0 argSlot lowV V.cells V.isAgg V.fits V.part partOk plains St.ret retSV svOf svsOf retQ retP retAll retOne uL_length uL_get? uL_get St.elems retH ownIdx ownAt
attribute [local simp] RunD_none RunD_some RunD_nil RunE_any acD_v acD_call agD_tt agD_ff agD_tf agD_ft agD_tup entsOf svref SO.opds SO.writes SO.makes callEnt pureSV pureOf RV.isOwn
attribute [local simp] abin_add abin_sub abin_mul abin_quo abin_rem abin_eql abin_neq abin_lss abin_leq abin_gtr abin_geq
attribute [local simp] uL_snoc uL_set uL_take uL_drop uL_append uL_replicate uL_nil
attribute [local simp] acK_callG acD_callG St.giv gsSV gvSV retEnts ownEnts SO.still
attribute [local simp] S0G argSlotG givSV retQG retPG retAllG retOneG HObj.width V.scalar trimQ V.byte
theorem revs_one (y : V) : Spec Try.prog f_slices_Reverse_Lstring_string [.sl none [y]] (· = []) := by
  refine spec_at Try.func148 ok_slices_Reverse_Lstring_string [] rfl (by simp) ?_
  unfold sc_slices_Reverse_Lstring_string
  have w : IntKind.i64.wrap 0 = 0 := by decide +kernel
  refine WS_seq (WS_reg [] ?_)
  simp [w]
  refine WS_block (WS_loop (fun S => S.σ 2 = .p (.i .i64 0) ∧ S.σ 3 = .p (.i .i64 0)) (fun _ => 0) ⟨by simp, by simp⟩ ?_)
  rintro S ⟨h2, h3⟩
  refine WS_seq (WS_seq (WS_reg [] ?_))
  simp [h2, h3]
  refine WS_cond (t := false) (by simp) (fun h => by cases h) (fun _ => WS_exit ?_)
  simp

theorem text_nil : Spec Try.prog f_nat_Text [U []] (· = [.pure (.s ⟨#[48]⟩)]) := by
  refine spec_at Try.func52 ok_nat_Text [] rfl (by simp) ?_
  unfold sc_nat_Text
  refine WS_seq (WS_reg [] ?_)
  simp
  refine WS_seq (WS_reg [] ?_)
  simp
  refine callK (plain_spec [] (by simp)) ?_
  simp [Nm.trim]
  refine WS_seq (WS_reg [3] ?_)
  simp
  refine WS_seq (WS_block (WS_loop (fun S => S.σ 0 = .p (.sl none []) ∧ S.σ 3 = .own 3 1 0 0 ∧ S.h 3 = ⟨1, some (.arr 9 none [])⟩) (fun _ => 0) ⟨by simp [U], by simp, by simp⟩ ?_))
  rintro S ⟨h0, h3, hh⟩
  refine WS_seq (WS_seq (WS_reg [] ?_))
  simp [h0]
  refine WS_cond (t := false) (by simp) (fun h => by cases h) (fun _ => WS_exit ?_)
  simp
  refine WS_seq (WS_seq (WS_reg [] ?_))
  simp [h3, hh]
  refine WS_cond (t := true) (by simp) (fun _ => ?_) (fun h => by cases h)
  refine WS_seq (WS_reg [] ?_)
  simp
  refine WS_ret ?_
  simp

theorem join_one (x : ByteArray) (sep : ByteArray) : Spec Try.prog f_strings_Join [.sl none [.s x], .s sep] (· = [.pure (.s x)]) := by
  refine spec_at Try.func149 ok_strings_Join [] rfl (by simp) ?_
  unfold sc_strings_Join
  refine WS_seq (WS_reg [] ?_)
  simp
  refine WS_seq (WS_seq (WS_reg [] ?_))
  simp
  refine WS_block (WS_seq (WS_reg [] ?_))
  simp
  refine WS_cond (t := false) (by simp) (fun h => by cases h) (fun _ => ?_)
  refine WS_seq (WS_reg [] ?_)
  simp
  refine WS_cond (t := true) (by simp) (fun _ => ?_) (fun h => by cases h)
  refine WS_seq (WS_reg [] ?_)
  simp
  refine WS_ret ?_
  simp

theorem text_one (x : Nat) (h1 : 1 ≤ x) (h9 : x ≤ 9) : Spec Try.prog f_nat_Text [U [x]] (· = [.pure (.s ⟨#[UInt8.ofNat (48 + x)]⟩)]) := by
  refine spec_at Try.func52 ok_nat_Text [] rfl (by simp) ?_
  unfold sc_nat_Text
  have dx : Nm.Dl 18446744073709551616 [x] := Nm.Dl.cons (by omega) (Nm.Dl.nil _)
  have pl := plain_spec [x] (by simp)
  have tx : Nm.trim [x] = [x] := by simp [Nm.trim]; omega
  rw [tx] at pl
  have sh := short_spec [x] dx 10000000000000000000 (by omega) (by omega) (by simp)
  have vx : Nm.val 18446744073709551616 [x] = x := by simp [Nm.val]
  rw [vx, Nat.div_eq_of_lt (by omega), Nat.mod_eq_of_lt (by omega), Nm.dig_zero] at sh
  have sh' : Spec Try.prog f_nat_short [.sl none [.i .u64 (x : Int)], .i .u64 10000000000000000000] (· = [.pure (U []), .pure (.i .u64 (x : Int))]) := sh
  have dg := digits_one x h1 h9
  obtain ⟨D, hD⟩ : ∃ D, D = (⟨#[UInt8.ofNat (48 + x)]⟩ : ByteArray) := ⟨_, rfl⟩
  rw [← hD] at dg ⊢
  refine WS_seq (WS_reg [] ?_)
  simp
  refine WS_seq (WS_reg [] ?_)
  simp
  refine callK pl ?_
  simp
  refine WS_seq (WS_reg [3] ?_)
  simp
  refine WS_seq (WS_block (WS_loop (fun S => (∃ g, S.σ 0 = .p (.sl none [.i .u64 (x : Int)]) ∧ S.σ 3 = .own 3 g 0 0 ∧ S.h 3 = ⟨g, some (.arr 9 none [])⟩) ∨ (∃ g, S.σ 0 = .p (.sl none []) ∧ S.σ 3 = .own 3 g 0 1 ∧ S.h 3 = ⟨g, some (.arr 9 none [V.s D])⟩))
    (fun S => match S.σ 0 with | .p (.sl _ xs) => xs.length | _ => 0) (.inl ⟨1, by simp [U, uL], by simp, by simp⟩) ?_))
  rintro S (⟨g, h0, h3, hh⟩ | ⟨g, h0, h3, hh⟩)
  · refine WS_seq (WS_seq (WS_reg [] ?_))
    simp [h0]
    refine WS_cond (t := true) (by simp) (fun _ => WS_skip ?_) (fun h => by cases h)
    simp
    refine WS_block (WS_seq (WS_reg [] ?_))
    simp
    refine WS_seq (WS_reg [] ?_)
    simp [h0]
    refine callK sh' ?_
    simp
    refine WS_reg [] ?_
    simp [h3, U]
    refine callK dg ?_
    simp [h3, hh]
  · refine WS_seq (WS_seq (WS_reg [] ?_))
    simp [h0]
    refine WS_cond (t := false) (by simp) (fun h => by cases h) (fun _ => WS_exit ?_)
    simp
    refine WS_seq (WS_seq (WS_reg [] ?_))
    simp [h3, hh]
    refine WS_cond (t := false) (by simp) (fun h => by cases h) (fun _ => WS_skip ?_)
    simp
    refine WS_frz 3 3 none ?_
    simp [frzQ, h3, hh]
    refine WS_seq (WS_reg [] ?_)
    simp
    refine callK (revs_one _) ?_
    simp
    refine WS_seq (WS_reg [] ?_)
    simp
    refine callK (join_one D _) ?_
    simp
    refine WS_ret ?_
    simp
end Go.Vw
