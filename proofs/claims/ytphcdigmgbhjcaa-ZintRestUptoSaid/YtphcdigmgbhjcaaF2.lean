/- Functions of nat: limbs without noughts, and sums made limb by limb. -/
import Derived.Test.YtphcdigmgbhjcaaF1
import Derived.Test.YtphcdigmgbhjcaaNA
set_option linter.unusedVariables false
set_option linter.unusedSimpArgs false
namespace Go.Vw
open Go.Proofs

attribute [local simp] RunL_cons RunL_nil AOp_none AOp_some acK_v acK_call agK_tt agK_ff agK_tf agK_ft agK_tup agK_i aop aun St.ev St.heap St.put thenQ blockQ upd_apply S0 argSlot lowV V.cells V.isAgg V.fits V.part partOk plains St.ret retSV svOf svsOf retQ retP retAll retOne uL_length uL_get? uL_get St.elems retH ownIdx ownAt
attribute [local simp] RunD_none RunD_some RunD_nil RunE_any acD_v acD_call agD_tt agD_ff agD_tf agD_ft agD_tup entsOf svref SO.opds SO.writes SO.makes callEnt pureSV pureOf RV.isOwn
attribute [local simp] abin_add abin_sub abin_mul abin_quo abin_rem abin_eql abin_neq abin_lss abin_leq abin_gtr abin_geq
attribute [local simp] uL_snoc uL_set uL_take uL_drop uL_append uL_replicate uL_nil
attribute [local simp] acK_callG acD_callG St.giv gsSV gvSV retEnts ownEnts SO.still
attribute [local simp] S0G argSlotG givSV retQG retPG retAllG retOneG HObj.width V.scalar trimQ V.byte






theorem trim_take_zero {l : List Nat} (hp : 0 < l.length) (h : l.getD (l.length - 1) 0 = 0) : Nm.trim (l.take (l.length - 1)) = Nm.trim l := by
  have hg : l[l.length - 1]'(by omega) = 0 := by simpa [List.getD, show l.length - 1 < l.length by omega] using h
  have e : l.take (l.length - 1) ++ [0] = l := by
    have := List.take_append_getElem (l := l) (i := l.length - 1) (by omega)
    rw [hg] at this
    rw [this]
    exact List.take_of_length_le (by omega)
  rw [← Nm.trim_snoc_zero, e]

theorem trim_last {l : List Nat} (hp : 0 < l.length) (h : l.getD (l.length - 1) 0 ≠ 0) : Nm.trim l = l := by
  have hg : l[l.length - 1]'(by omega) ≠ 0 := by simpa [List.getD, show l.length - 1 < l.length by omega] using h
  have e : l.take (l.length - 1) ++ [l[l.length - 1]'(by omega)] = l := by
    have := List.take_append_getElem (l := l) (i := l.length - 1) (by omega)
    rw [this]
    exact List.take_of_length_le (by omega)
  rw [← e, Nm.trim_snoc _ hg]

theorem plain_spec (a : List Nat) (hl : a.length ≤ 2 ^ 62) : Spec Try.prog f_nat_plain [U a] (· = [.pure (U (Nm.trim a))]) := by
  refine spec_at Try.func124 ok_nat_plain [] rfl (by simp) ?_
  unfold sc_nat_plain U
  refine WS_seq (WS_reg [] ?_)
  simp
  refine WS_seq (WS_block (WS_loop (fun S => ∃ l, S.σ 0 = .p (.sl none (uL l)) ∧ Nm.trim l = Nm.trim a ∧ l.length ≤ 2 ^ 62) (fun S => match S.σ 0 with | .p (.sl _ xs) => xs.length | _ => 0) ⟨a, rfl, rfl, hl⟩ ?_))
  rintro S ⟨l, h0, ht, hl⟩
  refine WS_seq (WS_seq (WS_reg [] ?_))
  by_cases hp : 0 < l.length
  · have hw := i64_pred l.length (by omega) hp
    have hlt : l.length - 1 < l.length := by omega
    simp [h0, hp, hw, hlt]
    refine WS_cond (by simp; rfl) (fun h => ?_) (fun h => ?_)
    · have hz : l[l.length - 1] = 0 := by simpa using h
      refine WS_skip ?_
      simp
      refine WS_block (WS_reg [] ?_)
      simp [h0, hw]
      refine ⟨⟨l.take (l.length - 1), rfl, by rw [trim_take_zero hp (by simp [List.getD, hlt, hz]), ht], by simp; omega⟩, hlt⟩
    · have hz : l[l.length - 1] ≠ 0 := by simpa using h
      refine WS_exit ?_
      simp
      refine WS_seq (WS_reg [] ?_)
      simp [h0]
      refine WS_ret ?_
      simp
      rw [← ht, trim_last hp (by simp [List.getD, hlt, hz])]
  · have hl0 : l = [] := List.eq_nil_of_length_eq_zero (by omega)
    subst hl0
    simp [h0]
    refine WS_cond (by simp; rfl) (fun h => by simp at h) (fun h => ?_)
    refine WS_exit ?_
    simp
    refine WS_seq (WS_reg [] ?_)
    simp [h0]
    refine WS_ret ?_
    simp
    rw [← ht]; rfl

/-- A list of the caller's, cut of its noughts, in memory of its own. -/
theorem moved_spec (a : List Nat) (n : Nat) (hl : a.length ≤ 2 ^ 40) (hn : n ≤ 2 ^ 40) : Spec Try.prog f_nat_moved [U a, .i .i64 (n : Int)] (· = [.pure (U (List.replicate n 0 ++ a))]) := by
  refine spec_at Try.func125 ok_nat_moved [] rfl (by simp) ?_
  unfold sc_nat_moved U
  refine WS_seq (WS_reg [] ?_)
  simp
  refine WS_seq (WS_reg [8] ?_)
  simp
  refine ⟨by omega, by omega, ?_⟩
  refine WS_ret ?_
  simp

theorem set_fill (l : List Nat) (m v : Nat) {k : Nat} (hl : l.length = k) (hm : 0 < m) : (l ++ List.replicate m 0).set k v = l ++ [v] ++ List.replicate (m - 1) 0 := by
  subst hl
  obtain ⟨j, rfl⟩ : ∃ j, m = j + 1 := ⟨m - 1, by omega⟩
  simp [List.set_append_right, List.replicate_succ]

theorem carried_spec (n : Nat) (hn : n ≤ 2 ^ 40) (f : FuncId) (caps : List V) (F : Nat → Nat → Nat × Nat) (I : Nat → Prop) (h0 : I 0)
    (hF : ∀ k c, k < n → I c → Spec Try.prog f ([.i .i64 (k : Int), .i .u64 (c : Int)] ++ caps) (· = [.pure (.i .u64 ((F k c).1 : Nat)), .pure (.i .u64 ((F k c).2 : Nat))]) ∧ I (F k c).2) :
    Spec Try.prog f_nat_carried [.i .i64 (n : Int), .clo f caps] (· = [.own 30 none (uL (Nm.crun F n).1), .pure (.i .u64 ((Nm.crun F n).2 : Nat))]) := by
  refine spec_at Try.func122 ok_nat_carried [true] rfl (by simp) ?_
  unfold sc_nat_carried
  refine WS_seq (WS_reg [] ?_)
  simp
  refine WS_seq (WS_reg [] ?_)
  simp
  refine ⟨by omega, ?_⟩
  refine WS_seq (WS_reg [] ?_)
  simp
  refine WS_seq (WS_seq (WS_reg [] ?_))
  simp
  refine WS_block (WS_loop (fun S => ∃ k, k ≤ n ∧ I (Nm.crun F k).2 ∧ S.σ 1 = .p (.clo f caps) ∧ S.σ 6 = .own 10 1 0 n ∧ S.σ 7 = .p (.i .u64 ((Nm.crun F k).2 : Nat)) ∧ S.σ 12 = .p (.i .i64 (n : Int)) ∧ S.σ 13 = .p (.i .i64 (k : Int)) ∧
      S.h 10 = ⟨1, some (.arr 30 none (uL ((Nm.crun F k).1 ++ List.replicate (n - k) 0)))⟩) (fun S => match S.σ 13 with | .p (.i _ k) => n - k.toNat | _ => 0) ?_ ?_)
  · exact ⟨0, by omega, h0, by simp [Nm.crun]⟩
  rintro S ⟨k, hk, hI, h1, h6, h7, h12, h13, h10⟩
  refine WS_seq (WS_reg [] ?_)
  simp [h12, h13]
  by_cases hlt : k < n
  · refine WS_seq (WS_cond (by simp [hlt]; rfl) (fun h => ?_) (fun h => by simp at h))
    refine WS_skip ?_
    simp
    refine WS_seq (WS_block (WS_seq (WS_reg [] ?_)))
    simp [h13]
    refine WS_reg [] ?_
    simp [h1, h6, h7, h13]
    obtain ⟨hs, hI'⟩ := hF k _ hlt hI
    refine callK (hs) ?_
    simp [h6, h7, h10, hlt, Nm.crun_length]
    have hw := i64_succ k (by omega)
    refine ⟨by omega, ?_⟩
    refine WS_reg [] ?_
    simp [h1, h6, h7, h12, h13, hw]
    refine ⟨⟨k + 1, by omega, hI', rfl, rfl, ?_⟩, by omega⟩
    congr 1
    have hsf := set_fill (Nm.crun F k).1 (n - k) (F k (Nm.crun F k).2).1 (Nm.crun_length F k) (by omega)
    rw [List.set_append_right _ _ (by rw [Nm.crun_length]; exact Nat.le_refl _)] at hsf
    simp only [Nm.crun_length, Nat.sub_self] at hsf
    rw [hsf]
    simp [Nm.crun, Nat.sub_sub]
  · have hk' : k = n := by omega
    subst hk'
    refine WS_seq (WS_cond (t := false) (by simp) (fun h => by cases h) (fun _ => ?_))
    refine WS_exit ?_
    simp
    refine WS_seq (WS_reg [] ?_)
    simp [h6, h7]
    refine WS_ret ?_
    simp [h10, Nm.crun_length, take_all' (Nm.crun_length F k)]

end Go.Vw
