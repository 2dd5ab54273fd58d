/- Functions of nat: what they answer. -/
import Derived.Test.YtphcdigmgbhjcaaNA
import Derived.Test.YtphcdigmgbhjcaaN2
import Derived.Test.YtphcdigmgbhjcaaS1
set_option linter.unusedVariables false
set_option linter.unusedSimpArgs false
namespace Go.Vw
open Go.Proofs

def uL (l : List Nat) : List V := l.map fun x : Nat => V.i .u64 (x : Int)
def U (l : List Nat) : V := .sl none (uL l)
theorem uL_length (l : List Nat) : (uL l).length = l.length := by simp [uL]
theorem uL_get? (l : List Nat) (k : Nat) : (uL l)[k]? = (l[k]?).map fun x : Nat => V.i .u64 (x : Int) := by simp [uL]
theorem uL_get (l : List Nat) (k : Nat) (h : k < (uL l).length) : (uL l)[k] = V.i .u64 ((l[k]'(by simpa [uL] using h) : Nat) : Int) := by simp [uL]
theorem uL_take (l : List Nat) (k : Nat) : (uL l).take k = uL (l.take k) := by simp [uL]
theorem uL_drop (l : List Nat) (k : Nat) : (uL l).drop k = uL (l.drop k) := by simp [uL]
theorem uL_append (l m : List Nat) : uL l ++ uL m = uL (l ++ m) := by simp [uL]
theorem uL_set (l : List Nat) (k x : Nat) : (uL l).set k (V.i .u64 (x : Int)) = uL (l.set k x) := by simp [uL]
theorem uL_replicate (k : Nat) : List.replicate k (V.i .u64 0) = uL (List.replicate k 0) := by simp [uL]
theorem uL_snoc (l : List Nat) (x : Nat) : uL l ++ [V.i .u64 (x : Int)] = uL (l ++ [x]) := by simp [uL]
theorem uL_take_all {l : List Nat} {n : Nat} (h : l.length = n) : (uL l).take n = uL l := List.take_of_length_le (by rw [uL_length, h]; exact Nat.le_refl _)
theorem take_all' {l : List Nat} {n : Nat} (h : l.length = n) : l.take n = l := List.take_of_length_le (by rw [h]; exact Nat.le_refl _)
theorem uL_nil : uL [] = [] := rfl
theorem uL_one (x : Nat) : [V.i .u64 (x : Int)] = uL [x] := rfl

attribute [local simp] RunL_cons RunL_nil AOp_none AOp_some acK_v acK_call agK_tt agK_ff agK_tf agK_ft agK_tup agK_i aop aun St.ev St.heap St.put thenQ blockQ upd_apply S0 argSlot lowV V.cells V.isAgg V.fits V.part partOk plains St.ret retSV svOf svsOf retQ retP retAll retOne uL_length uL_get? uL_get St.elems retH ownIdx ownAt
attribute [local simp] RunD_none RunD_some RunD_nil RunE_any acD_v acD_call agD_tt agD_ff agD_tf agD_ft agD_tup entsOf svref SO.opds SO.writes SO.makes callEnt pureSV pureOf RV.isOwn
attribute [local simp] abin_add abin_sub abin_mul abin_quo abin_rem abin_eql abin_neq abin_lss abin_leq abin_gtr abin_geq
attribute [local simp] uL_snoc uL_set uL_take uL_drop uL_append uL_replicate uL_nil
attribute [local simp] acK_callG acD_callG St.giv gsSV gvSV retEnts ownEnts SO.still
attribute [local simp] S0G argSlotG givSV retQG retPG retAllG retOneG HObj.width V.scalar trimQ V.byte

theorem at_spec (a : List Nat) (k : Int) (h0 : 0 ≤ k) : Spec Try.prog f_nat_at [U a, .i .i64 k] (· = [.pure (.i .u64 ((a.getD k.toNat 0 : Nat) : Int))]) := by
  refine spec_at Try.func129 ok_nat_at [] rfl (by simp) ?_
  unfold sc_nat_at U
  refine WS_seq (WS_reg [] ?_)
  simp
  refine WS_seq (WS_seq (WS_reg [] ?_))
  simp
  refine WS_cond (by simp; rfl) (fun h => ?_) (fun h => ?_)
  · have hk : k < a.length := by simpa using h
    refine WS_seq (WS_reg [] ?_)
    have hk' : k.toNat < a.length := by omega
    simp [h0, hk, hk']
    refine WS_ret ?_
    simp
  · have hk : ¬ k < a.length := by simpa using h
    refine WS_skip ?_
    simp
    refine WS_seq (WS_reg [] ?_)
    simp
    refine WS_ret ?_
    have hk' : a.length ≤ k.toNat := by omega
    simp [hk']
end Go.Vw
