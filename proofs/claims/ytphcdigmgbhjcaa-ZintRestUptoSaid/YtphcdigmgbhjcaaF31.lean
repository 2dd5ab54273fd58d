/- nat.digits; ref01.Text. -/
import Derived.Test.YtphcdigmgbhjcaaF30
import Derived.Test.YtphcdigmgbhjcaaNC
set_option linter.unusedVariables false
set_option linter.unusedSimpArgs false
namespace Go.Vw
open Go.Proofs

def bV (l : List UInt8) : List V := l.map fun b => .i .u8 b.toNat
theorem bV_length (l : List UInt8) : (bV l).length = l.length := by simp [bV]
theorem bV_append (l m : List UInt8) : bV l ++ bV m = bV (l ++ m) := by simp [bV]
theorem bV_reverse (l : List UInt8) : (bV l).reverse = bV l.reverse := by simp [bV]
theorem bV_one (b : UInt8) : [V.i .u8 (b.toNat : Int)] = bV [b] := rfl
theorem bV_flat (l : List UInt8) : ∀ v ∈ bV l, v.isAgg = false := by
  intro v hv
  obtain ⟨b, _, rfl⟩ := List.mem_map.1 hv
  rfl
theorem bV_byte (l : List UInt8) : (bV l).map V.byte = l := by
  simp only [bV, List.map_map]
  have : (V.byte ∘ fun b : UInt8 => V.i .u8 (b.toNat : Int)) = id := by funext b; simp [V.byte]
  rw [this, List.map_id]
theorem bV_ex (l : List UInt8) : ∃ m : List UInt8, bV l = m.map fun b => V.i .u8 b.toNat := ⟨l, rfl⟩

attribute [local simp] RunL_cons RunL_nil AOp_none AOp_some acK_v acK_call agK_tt agK_ff agK_tf agK_ft agK_tup agK_i aop aun St.ev St.heap St.put thenQ blockQ upd_apply S0 argSlot lowV V.cells V.isAgg V.fits V.part partOk plains St.ret retSV svOf svsOf retQ retP retAll retOne uL_length uL_get? uL_get St.elems retH ownIdx ownAt
attribute [local simp] RunD_none RunD_some RunD_nil RunE_any acD_v acD_call agD_tt agD_ff agD_tf agD_ft agD_tup entsOf svref SO.opds SO.writes SO.makes callEnt pureSV pureOf RV.isOwn
attribute [local simp] abin_add abin_sub abin_mul abin_quo abin_rem abin_eql abin_neq abin_lss abin_leq abin_gtr abin_geq
attribute [local simp] uL_snoc uL_set uL_take uL_drop uL_append uL_replicate uL_nil
attribute [local simp] acK_callG acD_callG St.giv gsSV gvSV retEnts ownEnts SO.still
attribute [local simp] S0G argSlotG givSV retQG retPG retAllG retOneG HObj.width V.scalar trimQ V.byte
theorem byte_digit (d : Nat) (h : d < 10) : IntKind.u8.wrap (IntKind.u64.wrap (48 + (d : Int))) = ((Nm.txB d).toNat : Int) := by
  rw [Nm.txB_nat h]
  have e : IntKind.u64.wrap (48 + (d : Int)) = ((48 + d : Nat) : Int) := u64_addf 48 d (by omega)
  rw [e, IntKind.wrap_u8]
  omega

def DigI (x : Nat) (all : Bool) (S : St) : Prop := ∃ k g : Nat, k ≤ 20 ∧ (all = true → k ≤ 19) ∧ (all = false → k = 0 ∨ x / 10 ^ (k - 1) ≠ 0) ∧ S.σ 0 = .p (.i .u64 ((x / 10 ^ k : Nat) : Int)) ∧ S.σ 1 = .p (.b all) ∧ S.σ 5 = .own 5 g 0 k ∧
      S.h 5 = ⟨g, some (.arr 5 none (bV ((Nm.pad 10 k x).map Nm.txB)))⟩

def digM (S : St) : Nat := match S.σ 5 with | .own _ _ _ k => 21 - k | _ => 0

theorem digits_spec (x : Nat) (hx : x < 18446744073709551616) (all : Bool) (ha : all = true → x < 10 ^ 19) :
    Spec Try.prog f_nat_digits [.i .u64 (x : Int), .b all] (· = [.pure (.s ⟨(if all then Nm.padL 19 x else Nm.decL x).toArray⟩)]) := by
  refine spec_at Try.func147 ok_nat_digits [] rfl (by simp) ?_
  unfold sc_nat_digits
  have hfin : ∀ k, x / 10 ^ k ≠ 0 → k < 20 := fun k hk => by
    rcases Nat.lt_or_ge k 20 with h | h
    · exact h
    · exfalso
      refine hk (Nat.div_eq_of_lt (Nat.lt_of_lt_of_le hx ?_))
      exact Nat.le_trans (by decide : 18446744073709551616 ≤ 10 ^ 20) (Nat.pow_le_pow_right (by omega) h)
  refine WS_seq (WS_reg [] ?_)
  simp
  refine WS_seq (WS_reg [5] ?_)
  simp
  refine WS_seq (WS_block (WS_loop (DigI x all) digM ⟨0, 1, by omega, by simp, by simp, by simp, by simp, by simp, by simp [Nm.pad, bV]⟩ ?_))
  rintro S ⟨k, g, hk, hka, hkn, s0, s1, s5, h5⟩
  obtain ⟨y, hy⟩ : ∃ y, y = x / 10 ^ k := ⟨_, rfl⟩
  rw [← hy] at s0
  have hylt : y < 18446744073709551616 := by rw [hy]; exact Nat.lt_of_le_of_lt (Nat.div_le_self _ _) hx
  have hlen : ((Nm.pad 10 k x).map Nm.txB).length = k := by simp [Nm.pad_length]
  have hy10 : y / 10 = x / 10 ^ (k + 1) := by rw [hy, Nat.div_div_eq_div_mul, Nat.pow_succ]
  have hstep : (0 < y ∨ (all = true ∧ k < 19)) → k < 20 ∧ (all = true → k + 1 ≤ 19) ∧ (all = false → k + 1 = 0 ∨ x / 10 ^ (k + 1 - 1) ≠ 0) := by
    intro h
    refine ⟨?_, fun h1 => ?_, fun h1 => ?_⟩
    · rcases h with h | h
      · exact hfin k (by rw [← hy]; omega)
      · omega
    · rcases h with h | h
      · rcases Nat.lt_or_ge k 19 with h2 | h2
        · omega
        · exfalso
          have : x / 10 ^ k = 0 := Nat.div_eq_of_lt (Nat.lt_of_lt_of_le (ha h1) (Nat.pow_le_pow_right (by omega) h2))
          rw [← hy] at this; omega
      · omega
    · rcases h with h | h
      · exact .inr (by rw [Nat.add_sub_cancel, ← hy]; omega)
      · rw [h1] at h; cases h.1
  have round : (0 < y ∨ (all = true ∧ k < 19)) → ∀ S' : St, S'.σ 0 = .p (.i .u64 (y : Int)) → S'.σ 1 = .p (.b all) → S'.σ 5 = .own 5 g 0 k → S'.h 5 = ⟨g, some (.arr 5 none (bV ((Nm.pad 10 k x).map Nm.txB)))⟩ →
      WS Try.prog 29 sc_nat_digits.snd.snd.fst.fst.fst.snd (fun e S'' => e = .normal ∧ ∃ g', S''.σ 0 = .p (.i .u64 ((x / 10 ^ (k + 1) : Nat) : Int)) ∧ S''.σ 1 = .p (.b all) ∧ S''.σ 5 = .own 5 g' 0 (k + 1) ∧ S''.h 5 = ⟨g', some (.arr 5 none (bV ((Nm.pad 10 (k + 1) x).map Nm.txB)))⟩) S' := by
    intro _ S' t0 t1 t5 th
    unfold sc_nat_digits
    simp only [SC.snd, SC.fst]
    have e1 : ((y : Int)).tmod 10 = ((y % 10 : Nat) : Int) := tmod_nat y 10
    have e2 : ((y : Int)).tdiv 10 = ((y / 10 : Nat) : Int) := tdiv_nat y 10
    have hd : y % 10 < 10 := Nat.mod_lt _ (by omega)
    have e3 := byte_digit (y % 10) hd
    have e4 : IntKind.u64.wrap (((y / 10 : Nat)) : Int) = ((y / 10 : Nat) : Int) := u64_fit _ (by omega)
    have hsn : (Nm.pad 10 (k + 1) x).map Nm.txB = (Nm.pad 10 k x).map Nm.txB ++ [Nm.txB (y % 10)] := by rw [Nm.pad_snoc, ← hy, List.map_append]; rfl
    rw [hsn, ← hy10]
    obtain ⟨L, hL⟩ : ∃ L, L = (Nm.pad 10 k x).map Nm.txB := ⟨_, rfl⟩
    rw [← hL] at th hlen ⊢
    obtain ⟨dg, hdg⟩ : ∃ d, d = y % 10 := ⟨_, rfl⟩
    obtain ⟨y', hy'⟩ : ∃ d, d = y / 10 := ⟨_, rfl⟩
    rw [← hdg] at e1 e3 ⊢
    rw [← hy'] at e2 e4 ⊢
    have htk : (bV L).take k = bV L := List.take_of_length_le (by rw [bV_length]; omega)
    refine WS_seq (WS_block (WS_reg [] ?_))
    simp [t0, t5, th, e1, e3, bV_length, hlen, htk]
    refine ⟨by omega, ?_⟩
    refine WS_reg [] ?_
    simp [t0, t1, e2, e4]
    simp [bV]
  have hmono : ∀ S' : St, (0 < y ∨ (all = true ∧ k < 19)) → (∃ g', S'.σ 0 = .p (.i .u64 ((x / 10 ^ (k + 1) : Nat) : Int)) ∧ S'.σ 1 = .p (.b all) ∧ S'.σ 5 = .own 5 g' 0 (k + 1) ∧ S'.h 5 = ⟨g', some (.arr 5 none (bV ((Nm.pad 10 (k + 1) x).map Nm.txB)))⟩) →
      DigI x all S' ∧ digM S' < digM S := by
    rintro S' hgo ⟨g', a1, a2, a3, a4⟩
    obtain ⟨b1, b2, b3⟩ := hstep hgo
    refine ⟨⟨k + 1, g', by omega, b2, b3, a1, a2, a3, a4⟩, ?_⟩
    simp only [digM, a3, s5]
    omega
  unfold sc_nat_digits at round
  simp only [SC.snd, SC.fst] at round
  have fin : ¬ (0 < y ∨ (all = true ∧ k < 19)) → ((Nm.pad 10 k x).map Nm.txB).reverse = if all then Nm.padL 19 x else Nm.decL x := by
    intro h
    have hy0 : x / 10 ^ k = 0 := by rw [← hy]; omega
    rw [← List.map_reverse]
    cases all with
    | true =>
      have : k = 19 := by
        have := hka rfl
        by_cases h2 : k < 19
        · exact absurd (.inr ⟨rfl, h2⟩) h
        · omega
      subst this
      rfl
    | false => exact Nm.padL_all hy0 (hkn rfl)
  obtain ⟨T, hT⟩ : ∃ T, T = (if all then Nm.padL 19 x else Nm.decL x) := ⟨_, rfl⟩
  rw [← hT] at fin ⊢
  refine WS_seq (WS_seq (WS_reg [] ?_))
  by_cases hy1 : 0 < y
  · simp [s0, hy1]
    refine WS_cond (t := true) (by simp) (fun _ => ?_) (fun h => by cases h)
    refine WS_skip ?_
    simp only [thenQ]
    refine (round (.inl hy1) _ (by simp [s0]) (by simp [s1]) (by simp [s5]) (by simp [h5])).mono ?_
    rintro e S' ⟨rfl, hS'⟩
    exact hmono S' (.inl hy1) hS'
  · have hy0 : y = 0 := by omega
    cases all with
    | true =>
      by_cases hk19 : k < 19
      · have hk19' : (k : Int) < 19 := by omega
        simp [s0, s1, s5, h5, hy0, hk19, hk19']
        refine WS_cond (t := true) (by simp) (fun _ => ?_) (fun h => by cases h)
        refine WS_skip ?_
        simp only [thenQ]
        refine (round (.inr ⟨rfl, hk19⟩) _ (by simp [s0]) (by simp [s1]) (by simp [s5]) (by simp [h5])).mono ?_
        rintro e S' ⟨rfl, hS'⟩
        exact hmono S' (.inr ⟨rfl, hk19⟩) hS'
      · have hk19' : ¬ (k : Int) < 19 := by omega
        have fin := fin (by rintro (h | h); · exact hy1 h
                            · exact hk19 h.2)
        have rv := revb_given (bV ((Nm.pad 10 k x).map Nm.txB)) (bV_flat _) (by rw [bV_length]; omega)
        rw [bV_reverse, fin] at rv
        obtain ⟨L, hL⟩ : ∃ L, L = (Nm.pad 10 k x).map Nm.txB := ⟨_, rfl⟩
        rw [← hL] at rv h5 hlen fin
        have hTl : T.length = k := by rw [← fin]; simpa using hlen
        have htk : (bV T).take k = bV T := List.take_of_length_le (by rw [bV_length]; omega)
        simp [s0, s1, s5, h5, hy0, hk19, hk19']
        refine WS_cond (t := false) (by simp) (fun h => by cases h) (fun _ => ?_)
        refine WS_exit ?_
        simp
        refine WS_seq (WS_reg [] ?_)
        simp [s5, h5, bV_length, hlen]
        refine callG rv ?_
        simp
        refine WS_seq (WS_reg [] ?_)
        simp [s5, bV_length, hTl, htk, bV_byte, h5]
        refine ⟨bV_ex T, ?_⟩
        refine WS_ret ?_
        simp
    | false =>
      have fin := fin (by rintro (h | h); · exact hy1 h
                          · cases h.1)
      have rv := revb_given (bV ((Nm.pad 10 k x).map Nm.txB)) (bV_flat _) (by rw [bV_length]; omega)
      rw [bV_reverse, fin] at rv
      obtain ⟨L, hL⟩ : ∃ L, L = (Nm.pad 10 k x).map Nm.txB := ⟨_, rfl⟩
      rw [← hL] at rv h5 hlen fin
      have hTl : T.length = k := by rw [← fin]; simpa using hlen
      have htk : (bV T).take k = bV T := List.take_of_length_le (by rw [bV_length]; omega)
      simp [s0, s1, s5, h5, hy0]
      refine WS_cond (t := false) (by simp) (fun h => by cases h) (fun _ => ?_)
      refine WS_exit ?_
      simp
      refine WS_seq (WS_reg [] ?_)
      simp [s5, h5, bV_length, hlen]
      refine callG rv ?_
      simp
      refine WS_seq (WS_reg [] ?_)
      simp [s5, bV_length, hTl, htk, bV_byte, h5]
      refine ⟨bV_ex T, ?_⟩
      refine WS_ret ?_
      simp
end Go.Vw
