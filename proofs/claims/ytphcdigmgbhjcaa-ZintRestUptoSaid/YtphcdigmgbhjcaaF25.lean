/- nat.digits of one digit; slices.Reverse of at most one element. -/
import Derived.Test.YtphcdigmgbhjcaaF24
set_option linter.unusedVariables false
set_option linter.unusedSimpArgs false
namespace Go.Vw
open Go.Proofs

attribute [local simp] RunL_cons RunL_nil AOp_none AOp_some acK_v acK_call agK_tt agK_ff agK_tf agK_ft agK_tup agK_i aop aun St.ev St.heap St.put thenQ blockQ upd_apply S0 argSlot lowV V.cells V.isAgg V.fits V.part partOk plains St.ret retSV svOf svsOf retQ retP retAll retOne uL_length uL_get? uL_get St.elems retH ownIdx ownAt
attribute [local simp] RunD_none RunD_some RunD_nil RunE_any acD_v acD_call agD_tt agD_ff agD_tf agD_ft agD_tup entsOf svref SO.opds SO.writes SO.makes callEnt pureSV pureOf RV.isOwn
attribute [local simp] abin_add abin_sub abin_mul abin_quo abin_rem abin_eql abin_neq abin_lss abin_leq abin_gtr abin_geq
attribute [local simp] uL_snoc uL_set uL_take uL_drop uL_append uL_replicate uL_nil
attribute [local simp] acK_callG acD_callG St.giv gsSV gvSV retEnts ownEnts SO.still
attribute [local simp] S0G argSlotG givSV retQG retPG retAllG retOneG HObj.width V.scalar trimQ V.byte
theorem rev_one (y : V) : Spec Try.prog f_slices_Reverse_Lbyte_byte [.sl none [y]] (· = []) := by
  refine spec_at Try.func167 ok_slices_Reverse_Lbyte_byte [] rfl (by simp) ?_
  unfold sc_slices_Reverse_Lbyte_byte
  have w : IntKind.i64.wrap 0 = 0 := by decide +kernel
  refine WS_seq (WS_reg [] ?_)
  simp [w]
  refine WS_block (WS_loop (fun S => S.σ 2 = .p (.i .i64 0) ∧ S.σ 3 = .p (.i .i64 0)) (fun _ => 0) ⟨by simp, by simp⟩ ?_)
  rintro S ⟨h2, h3⟩
  refine WS_seq (WS_seq (WS_reg [] ?_))
  simp [h2, h3]
  refine WS_cond (t := false) (by simp) (fun h => by cases h) (fun _ => WS_exit ?_)
  simp

theorem digits_one (x : Nat) (h1 : 1 ≤ x) (h9 : x ≤ 9) : Spec Try.prog f_nat_digits [.i .u64 (x : Int), .b false] (· = [.pure (.s ⟨#[UInt8.ofNat (48 + x)]⟩)]) := by
  refine spec_at Try.func147 ok_nat_digits [] rfl (by simp) ?_
  unfold sc_nat_digits
  have q1 : (x : Int).tmod 10 = (x : Int) := by have := tmod_nat x 10; rw [Nat.mod_eq_of_lt (by omega)] at this; exact this
  have q2 : (x : Int).tdiv 10 = 0 := by have := tdiv_nat x 10; rw [Nat.div_eq_of_lt (by omega)] at this; exact this
  have q3 : IntKind.u64.wrap (48 + (x : Int)) = ((48 + x : Nat) : Int) := u64_addf 48 x (by omega)
  have q4 : IntKind.u64.wrap 0 = 0 := by decide +kernel
  obtain ⟨d, hd⟩ : ∃ d, d = 48 + x := ⟨_, rfl⟩
  rw [← hd] at q3 ⊢
  have q5 : IntKind.u8.wrap (d : Int) = (d : Int) := Go.IntWalk.u8_in _ (by omega)
  have hdn : (UInt8.ofNat d).toNat = d := by rw [UInt8.toNat_ofNat']; omega
  refine WS_seq (WS_reg [] ?_)
  simp
  refine WS_seq (WS_reg [5] ?_)
  simp
  refine WS_seq (WS_block (WS_loop (fun S => (S.σ 1 = .p (.b false)) ∧ ((∃ g, S.σ 0 = .p (.i .u64 (x : Int)) ∧ S.σ 5 = .own 5 g 0 0 ∧ S.h 5 = ⟨g, some (.arr 5 none [])⟩) ∨ (∃ g, S.σ 0 = .p (.i .u64 0) ∧ S.σ 5 = .own 5 g 0 1 ∧ S.h 5 = ⟨g, some (.arr 5 none [V.i .u8 (d : Int)])⟩)))
    (fun S => match S.σ 0 with | .p (.i _ k) => k.toNat | _ => 0) ⟨by simp, .inl ⟨1, by simp, by simp, by simp⟩⟩ ?_))
  rintro S ⟨s1, ⟨g, s0, s5, hh⟩ | ⟨g, s0, s5, hh⟩⟩
  · have hx0 : (0 : Int) < x := by omega
    have hxn : 0 < x := by omega
    refine WS_seq (WS_seq (WS_reg [] ?_))
    simp [s0, hx0, hxn]
    refine WS_cond (t := true) (by simp) (fun _ => WS_skip ?_) (fun h => by cases h)
    simp
    refine WS_seq (WS_block (WS_reg [] ?_))
    simp [s0, s5, hh, q1, q3, q5]
    refine WS_reg [] ?_
    simp [s0, s1, q2, q4]
    omega
  · refine WS_seq (WS_seq (WS_reg [] ?_))
    simp [s0, s1]
    refine WS_cond (t := false) (by simp) (fun h => by cases h) (fun _ => WS_exit ?_)
    simp
    refine WS_frz 5 5 none ?_
    simp [frzQ, s5, hh]
    refine WS_seq (WS_reg [] ?_)
    simp
    refine callK (rev_one _) ?_
    simp
    refine WS_seq (WS_reg [] ?_)
    simp
    refine ⟨⟨[UInt8.ofNat d], by simp [hdn]⟩, ?_⟩
    refine WS_ret ?_
    simp
end Go.Vw
