/- The contracts of the laws of layer 4. -/
import Derived.Test.YtphcdigmgbhjcaaMA
import Derived.Test.YtphcdigmgbhjcaaMB
import Derived.Test.YtphcdigmgbhjcaaMC
import Derived.Test.YtphcdigmgbhjcaaMD
import Derived.Test.YtphcdigmgbhjcaaME
import Derived.Test.YtphcdigmgbhjcaaMF
import Derived.Test.YtphcdigmgbhjcaaMG
set_option linter.unusedVariables false
set_option linter.unusedSimpArgs false
namespace Go.Vw
open Go.Proofs

attribute [local simp] RunL_cons RunL_nil AOp_none AOp_some acK_v acK_call agK_tt agK_ff agK_tf agK_ft agK_tup agK_i aop aun St.ev St.heap St.put thenQ blockQ scopeQ upd_apply S0 argSlot lowV V.cells V.isAgg V.fits V.part partOk plains St.ret retSV svOf svsOf retQ retP retAll retOne uL_length uL_get? uL_get St.elems retH ownIdx ownAt
attribute [local simp] RunD_none RunD_some RunD_nil RunE_any acD_v acD_call agD_tt agD_ff agD_tf agD_ft agD_tup entsOf svref SO.opds SO.writes SO.makes callEnt pureSV pureOf RV.isOwn
attribute [local simp] abin_add abin_sub abin_mul abin_quo abin_rem abin_eql abin_neq abin_lss abin_leq abin_gtr abin_geq
attribute [local simp] uL_snoc uL_set uL_take uL_drop uL_append uL_replicate uL_nil
attribute [local simp] acK_callG acD_callG St.giv gsSV gvSV retEnts ownEnts SO.still
attribute [local simp] S0G argSlotG givSV retQG retPG retAllG retOneG HObj.width V.scalar trimQ V.byte
attribute [local simp] zv V.fits fillOk fillV Z_eq rv Q_eq
theorem awake4 : Spec Try.prog f_law04_awake [] (· = [.pure (.b true)]) := by
  have nx := pnext (n := 7) (by omega) next_7
  have o2 := zof 2 (by omega) (by omega)
  have o3 := zof 3 (by omega) (by omega)
  have o5 := zof 5 (by omega) (by omega)
  have o34 := zof 34 (by omega) (by omega)
  have o101 := zof 101 (by omega) (by omega)
  have sm : ∀ x : Int, x.natAbs < 18446744073709551616 → IsZ 1 (Z x) x := fun x h => isZ_Z (zlen_small h)
  have cr := pcrt (sm 2 (by decide)) (sm 3 (by decide)) (sm 3 (by decide)) (sm 5 (by decide)) (by omega)
  rw [crt_8] at cr
  have fr := pfrac (sm 34 (by decide)) (sm 101 (by decide)) (by omega)
  rw [frac_34] at fr
  have t1 := ztext (sm 8 (by decide)) (by omega)
  rw [show zT 8 = [56] by rw [zT, if_neg (by omega)]; decide +kernel] at t1
  have t2 := qtext (isQ_Q (k := 2) (q := Rat.divInt 1 3) (divInt_len (k := 1) (zlen_small (by decide)) (zlen_small (by decide)))) (by omega)
  rw [show qT (Rat.divInt 1 3) = [49, 47, 51] by decide +kernel] at t2
  obtain ⟨q, hq⟩ : ∃ q, q = Rat.divInt 1 3 := ⟨_, rfl⟩
  rw [← hq] at fr t2
  obtain ⟨z, hz⟩ : ∃ z : Int, z = 8 := ⟨_, rfl⟩
  rw [← hz] at cr t1
  refine spec_at Try.func92 ok_law04_awake [] rfl (by simp) ?_
  unfold sc_law04_awake
  refine WS_seq (WS_reg [] ?_); simp [tx, abin_seql]
  refine WS_seq (WS_reg [] ?_); simp [tx, abin_seql]
  refine callK nx ?_; simp [tx, abin_seql]
  refine WS_seq (WS_reg [] ?_); simp [tx, abin_seql]
  refine callK o2 ?_; simp [tx, abin_seql]
  refine callK o3 ?_; simp [tx, abin_seql]
  refine callK o3 ?_; simp [tx, abin_seql]
  refine callK o5 ?_; simp [tx, abin_seql]
  refine callK cr ?_; simp [tx, abin_seql]
  refine WS_seq (WS_reg [] ?_); simp [tx, abin_seql]
  refine callK o34 ?_; simp [tx, abin_seql]
  refine callK o101 ?_; simp [tx, abin_seql]
  refine callK fr ?_; simp [tx, abin_seql]
  refine WS_seq (WS_reg [] ?_); simp [tx, abin_seql]
  refine callK t1 ?_; simp [tx, abin_seql]
  refine callK t2 ?_; simp [tx, abin_seql]
  refine WS_ret ?_; simp [tx, abin_seql]

theorem few4 (n : Nat) (hn : n ≤ 2 ^ 40) (L : List (Bool × List Nat)) (hL : L.length ≤ 2 ^ 40) : Spec Try.prog f_law04_few [.i .i64 (n : Int), .sl (some 2) (zL L)] (· = [.pure (.b (fewB n L))]) := by
  refine spec_at Try.func97 ok_law04_few [] rfl (by simp) ?_
  unfold sc_law04_few
  obtain ⟨m, hm⟩ : ∃ m, m = L.length := ⟨_, rfl⟩
  have hzl : (zL L).length = m := by simp [zL, hm]
  refine WS_seq (WS_reg [] ?_); simp
  refine WS_seq (WS_seq (WS_reg [] ?_)); simp
  refine WS_block (WS_loop (fun S => ∃ i : Nat, i ≤ m ∧ S.σ 0 = .p (.i .i64 (n : Int)) ∧ S.σ 1 = .p (.sl (some 2) (zL L)) ∧ S.σ 5 = .p (.i .i64 (i : Int)) ∧ fewB n (L.take i) = true) (fun S => match S.σ 5 with | .p (.i _ k) => m - k.toNat | _ => 0) ⟨0, by omega, by simp, by simp, by simp, rfl⟩ ?_)
  rintro S ⟨i, hi, s0, s1, s5, hall⟩
  refine WS_seq (WS_seq (WS_reg [] ?_)); simp [s1, s5, hzl]
  by_cases hlt : i < m
  · have hil : i < L.length := by omega
    have hiz : i < (zL L).length := by omega
    have hlt' : (i : Int) < (m : Int) := by omega
    have hget : (zL L)[i] = .agg [.b L[i].1, .sl none (uL L[i].2)] := by simp [zL]
    have htk : (L.take (i + 1)) = L.take i ++ [L[i]] := List.take_succ_eq_append_getElem hil
    obtain ⟨p, hp⟩ : ∃ p, p = L[i] := ⟨_, rfl⟩
    rw [← hp] at hget htk
    have w1 := i64_succ i (by omega)
    refine WS_cond (t := true) (by simp; omega) (fun _ => ?_) (fun h => by cases h)
    refine WS_skip ?_; simp
    refine WS_seq (WS_block (WS_seq (WS_reg [] ?_))); simp [s0, s1, s5, hiz, hzl, hlt, hlt', hget]
    by_cases hg : (n : Int) < (p.2.length : Int)
    · have hno : fewB n L = false := by
        rw [fewB, List.all_eq_false]
        exact ⟨p, by rw [hp]; exact List.getElem_mem hil, by simp; omega⟩
      rw [hno]
      refine WS_cond (t := true) (by simp; omega) (fun _ => ?_) (fun h => by cases h)
      refine WS_seq (WS_reg [] ?_); simp
      refine WS_ret ?_; simp
    · refine WS_cond (t := false) (by simp; omega) (fun h => by cases h) (fun _ => ?_)
      refine WS_skip ?_; simp
      refine WS_reg [] ?_; simp [s0, s1, s5, w1]
      refine ⟨⟨i + 1, by omega, rfl, ?_⟩, by omega⟩
      rw [htk, fewB, List.all_append]
      rw [fewB] at hall
      rw [hall]
      simp at hg ⊢
      omega
  · have him : i = m := by omega
    refine WS_cond (t := false) (by simp; omega) (fun h => by cases h) (fun _ => ?_)
    refine WS_exit ?_; simp
    refine WS_seq (WS_reg [] ?_); simp
    refine WS_ret ?_
    rw [him, List.take_of_length_le (by omega)] at hall
    simp only [hall]
    simp

theorem few4_two (n : Nat) (hn : n ≤ 2 ^ 40) (n1 n2 : Bool) (l1 l2 : List Nat) : Spec Try.prog f_law04_few [.i .i64 (n : Int), .sl (some 2) [zv n1 l1, zv n2 l2]] (· = [.pure (.b (fewB n [(n1, l1), (n2, l2)]))]) := few4 n hn [(n1, l1), (n2, l2)] (by simp)
theorem few4_three (n : Nat) (hn : n ≤ 2 ^ 40) (n1 n2 n3 : Bool) (l1 l2 l3 : List Nat) : Spec Try.prog f_law04_few [.i .i64 (n : Int), .sl (some 2) [zv n1 l1, zv n2 l2, zv n3 l3]] (· = [.pure (.b (fewB n [(n1, l1), (n2, l2), (n3, l3)]))]) := few4 n hn [(n1, l1), (n2, l2), (n3, l3)] (by simp)
theorem few4_five (n : Nat) (hn : n ≤ 2 ^ 40) (n1 n2 n3 n4 n5 : Bool) (l1 l2 l3 l4 l5 : List Nat) : Spec Try.prog f_law04_few [.i .i64 (n : Int), .sl (some 2) [zv n1 l1, zv n2 l2, zv n3 l3, zv n4 l4, zv n5 l5]] (· = [.pure (.b (fewB n [(n1, l1), (n2, l2), (n3, l3), (n4, l4), (n5, l5)]))]) := few4 n hn [(n1, l1), (n2, l2), (n3, l3), (n4, l4), (n5, l5)] (by simp)

theorem same4 (x : Int) (hl : zlen x ≤ 2 ^ 40) : Spec Try.prog f_law04_same [Z x, Z x] (· = [.pure (.b true)]) := by
  have sm := zsame x hl
  refine spec_at Try.func100 ok_law04_same [] rfl (by simp) ?_
  unfold sc_law04_same
  refine WS_seq (WS_reg [] ?_); simp
  refine WS_seq (WS_reg [] ?_); simp
  refine callK sm ?_; simp
  refine WS_ret ?_; simp
end Go.Vw
namespace Go.Vw
open Go.Proofs

attribute [local simp] RunL_cons RunL_nil AOp_none AOp_some acK_v acK_call agK_tt agK_ff agK_tf agK_ft agK_tup agK_i aop aun St.ev St.heap St.put thenQ blockQ scopeQ upd_apply S0 argSlot lowV V.cells V.isAgg V.fits V.part partOk plains St.ret retSV svOf svsOf retQ retP retAll retOne uL_length uL_get? uL_get St.elems retH ownIdx ownAt
attribute [local simp] RunD_none RunD_some RunD_nil RunE_any acD_v acD_call agD_tt agD_ff agD_tf agD_ft agD_tup entsOf svref SO.opds SO.writes SO.makes callEnt pureSV pureOf RV.isOwn
attribute [local simp] abin_add abin_sub abin_mul abin_quo abin_rem abin_eql abin_neq abin_lss abin_leq abin_gtr abin_geq
attribute [local simp] uL_snoc uL_set uL_take uL_drop uL_append uL_replicate uL_nil
attribute [local simp] acK_callG acD_callG St.giv gsSV gvSV retEnts ownEnts SO.still
attribute [local simp] S0G argSlotG givSV retQG retPG retAllG retOneG HObj.width V.scalar trimQ V.byte
attribute [local simp] zv V.fits fillOk fillV Z_eq
theorem law_PrimeIs (n : Int) (hn1 : -9223372036854775808 ≤ n) (hn2 : n ≤ 9223372036854775807) : Spec Try.prog f_law04_PrimeIs [.i .i64 n] (· = [.pure (.b true)]) := by
  have aw := awake4
  have pi := pis n hn1 hn2
  have ri := ris n hn1 hn2
  obtain ⟨b, hb⟩ : ∃ b, b = isP n := ⟨_, rfl⟩
  rw [← hb] at pi ri
  refine spec_at Try.func22 ok_law04_PrimeIs [] rfl (by simp) ?_
  unfold sc_law04_PrimeIs
  by_cases h : n < 65521
  · obtain ⟨p, hp⟩ := next_ex h
    have nx := pnext h hp
    have nr := rnext h hp
    refine WS_seq (WS_reg [] ?_); simp
    refine WS_seq (WS_reg [] ?_); simp
    refine callK aw ?_; simp
    refine WS_seq (WS_reg [] ?_); simp
    refine callK nx ?_; simp
    refine WS_seq (WS_reg [] ?_); simp
    refine callK nr ?_; simp
    refine WS_seq (WS_reg [] ?_); simp
    refine callK pi ?_; simp
    refine callK ri ?_; simp
    refine WS_ret ?_; simp
  · have nx := pnext_none n (by omega)
    have nr := rnext_none n (by omega)
    refine WS_seq (WS_reg [] ?_); simp
    refine WS_seq (WS_reg [] ?_); simp
    refine callK aw ?_; simp
    refine WS_seq (WS_reg [] ?_); simp
    refine callK nx ?_; simp
    refine WS_seq (WS_reg [] ?_); simp
    refine callK nr ?_; simp
    refine WS_seq (WS_reg [] ?_); simp
    refine callK pi ?_; simp
    refine callK ri ?_; simp
    refine WS_ret ?_; simp

set_option maxHeartbeats 1000000 in
theorem law_PrimeGaps (n : Int) (hn1 : -9223372036854775808 ≤ n) (hn2 : n ≤ 9223372036854775807) (a : Int) (ha1 : -9223372036854775808 ≤ a) (ha2 : a ≤ 9223372036854775807) (b : Int) (hb1 : -9223372036854775808 ≤ b) (hb2 : b ≤ 9223372036854775807) :
    Spec Try.prog f_law04_PrimeGaps [.i .i64 n, .i .i64 a, .i .i64 b] (· = [.pure (.b true)]) := by
  have aw := awake4
  have e1 := abin_and65535 n
  have e2 := abin_and255 a
  have e3 := abin_and255 b
  obtain ⟨k, hk⟩ := Int.eq_ofNat_of_zero_le (show 0 ≤ n % 65536 by omega)
  obtain ⟨x0, hx⟩ := Int.eq_ofNat_of_zero_le (show 0 ≤ a % 256 by omega)
  obtain ⟨y0, hy⟩ := Int.eq_ofNat_of_zero_le (show 0 ≤ b % 256 by omega)
  have kl : k < 65536 := by omega
  have xl : x0 < 256 := by omega
  have yl : y0 < 256 := by omega
  rw [hk] at e1
  rw [hx] at e2
  rw [hy] at e3
  obtain ⟨x, hx2⟩ : ∃ x, x = 2 + x0 := ⟨_, rfl⟩
  obtain ⟨y, hy2⟩ : ∃ x, x = 2 + y0 := ⟨_, rfl⟩
  have w1 : IntKind.i64.wrap (2 + (x0 : Int)) = (x : Int) := by rw [show (2 : Int) + (x0 : Int) = (x : Int) by omega]; exact i64_nat _ (by omega)
  have w2 : IntKind.i64.wrap (2 + (y0 : Int)) = (y : Int) := by rw [show (2 : Int) + (y0 : Int) = (y : Int) by omega]; exact i64_nat _ (by omega)
  have x2 : 2 ≤ x := by omega
  have y2 : 2 ≤ y := by omega
  have xy : x * y < 70000 := by have := Nat.mul_le_mul (show x ≤ 257 by omega) (show y ≤ 257 by omega); omega
  have w3 : IntKind.i64.wrap ((x : Int) * (y : Int)) = (x : Int) * (y : Int) := by rw [← Int.natCast_mul]; exact i64_nat _ (by omega)
  have pm := pis ((x : Int) * (y : Int)) (by rw [← Int.natCast_mul]; omega) (by rw [← Int.natCast_mul]; omega)
  rw [isP_mul x2 y2] at pm
  clear hk hx hy hx2 hy2
  refine spec_at Try.func23 ok_law04_PrimeGaps [] rfl (by simp) ?_
  unfold sc_law04_PrimeGaps
  by_cases h : (k : Int) < 65521
  · obtain ⟨p, hp⟩ := next_ex h
    have nx := pnext h hp
    have pp := pis (p : Int) (by omega) (by have := hp.le; omega)
    rw [hp.is] at pp
    have hgt : k < p := by have := hp.gt; omega
    have hpl := hp.le
    have kw := i64_succ k (by omega)
    refine WS_seq (WS_reg [] ?_); simp [e1, e2, e3, w1, w2, kw]
    refine WS_seq (WS_reg [] ?_); simp [e1, e2, e3, w1, w2, kw]
    refine callK aw ?_; simp [e1, e2, e3, w1, w2, kw]
    refine WS_seq (WS_reg [] ?_); simp [e1, e2, e3, w1, w2, kw]
    refine WS_seq (WS_reg [] ?_); simp [e1, e2, e3, w1, w2, kw]
    refine callK nx ?_; simp [e1, e2, e3, w1, w2, kw]
    refine WS_seq (WS_reg [] ?_); simp [e1, e2, e3, w1, w2, kw]
    refine WS_seq (WS_reg [] ?_); simp [e1, e2, e3, w1, w2, kw]
    refine WS_seq (WS_seq (WS_reg [] ?_)); simp [e1, e2, e3, w1, w2, kw]
    refine WS_cond (t := false) (by simp [e1, e2, e3, w1, w2, kw]) (fun h => by cases h) (fun _ => ?_)
    refine WS_skip ?_; simp [e1, e2, e3, w1, w2, kw]
    refine WS_seq (WS_seq (WS_reg [] ?_)); simp [e1, e2, e3, w1, w2, kw]
    refine WS_block ?_
    refine WS_loop (GpS k p x y) (kM p 13) ⟨k + 1, rfl, by omega, by omega, rfl, rfl, rfl, rfl⟩ ?_
    rintro S ⟨i, s13, hki, hip, s8, s9, s11, s12⟩
    have d13 := kM_eq (p := p) s13
    have kw2 : IntKind.i64.wrap ((k : Int) + 200) = (k : Int) + 200 := by rw [show (k : Int) + 200 = ((k + 200 : Nat) : Int) by omega]; exact i64_nat _ (by omega)
    have x0' : ¬ x = 0 := by omega
    have x1' : ¬ (x : Int) = -1 := by omega
    have hpk : (k : Int) < (p : Int) := by omega
    by_cases hlt : (i : Int) < (p : Int)
    · by_cases hlt2 : (i : Int) < (k : Int) + 200
      · have pi := pis (i : Int) (by omega) (by omega)
        rw [hp.no i (by omega) (by omega)] at pi
        have iw := i64_succ i (by omega)
        refine WS_seq (WS_seq (WS_reg [] ?_)); simp [s13, s8, s9, s11, s12, kw2, hlt, hlt2, iw]
        refine WS_cond (t := true) (by simp [s13, s8, s9, s11, s12, kw2, hlt, hlt2, iw]) (fun _ => ?_) (fun h => by cases h)
        refine WS_skip ?_; simp [s13, s8, s9, s11, s12, kw2, hlt, hlt2, iw]
        refine WS_seq (WS_block (WS_seq (WS_reg [] ?_))); simp [s13, s8, s9, s11, s12, kw2, hlt, hlt2, iw]
        refine callK pi ?_; simp [s13, s8, s9, s11, s12, kw2, hlt, hlt2, iw]
        refine WS_cond (t := false) (by simp [s13, s8, s9, s11, s12, kw2, hlt, hlt2, iw]) (fun h => by cases h) (fun _ => ?_)
        refine WS_skip ?_; simp [s13, s8, s9, s11, s12, kw2, hlt, hlt2, iw]
        refine WS_reg [] ?_; simp [s13, s8, s9, s11, s12, kw2, hlt, hlt2, iw]
        refine ⟨⟨i + 1, by simp, by omega, by omega, by simp [s8], by simp [s9], by simp [s11], by simp [s12]⟩, ?_⟩
        rw [d13, kM_eq (p := p) (n := i + 1) (by simp)]
        omega
      · by_cases hpx : p = x
        · subst hpx
          refine WS_seq (WS_seq (WS_reg [] ?_)); simp [s13, s8, s9, s11, s12, kw2, hlt, hlt2, hpk, w3]
          refine WS_cond (t := false) (by simp [s13, s8, s9, s11, s12, kw2, hlt, hlt2, hpk, w3]) (fun h => by cases h) (fun _ => ?_)
          refine WS_exit ?_; simp [s13, s8, s9, s11, s12, kw2, hlt, hlt2, hpk, w3]
          refine WS_seq (WS_reg [] ?_); simp [s13, s8, s9, s11, s12, kw2, hlt, hlt2, hpk, w3]
          refine callK pp ?_; simp [s13, s8, s9, s11, s12, kw2, hlt, hlt2, hpk, w3]
          refine callK pm ?_; simp [s13, s8, s9, s11, s12, kw2, hlt, hlt2, hpk, w3]
          refine WS_ret ?_; simp [s13, s8, s9, s11, s12, kw2, hlt, hlt2, hpk, w3]
        · have hm := isP_rem hp.is x2 hpx
          have hm2 : ¬ (p : Int) % (x : Int) = 0 := by rw [← Int.natCast_emod]; omega
          have hpx2 : ¬ (p : Int) = (x : Int) := by omega
          have ht : (p : Int).tmod (x : Int) = (p : Int) % (x : Int) := Int.tmod_eq_emod_of_nonneg (by omega)
          have hb1 : ((p : Int) == (x : Int)) = false := by simpa using hpx2
          have hb2 : ((p : Int) % (x : Int) != 0) = true := by simpa using hm2
          refine WS_seq (WS_seq (WS_reg [] ?_)); simp [s13, s8, s9, s11, s12, kw2, hlt, hlt2, hpk, w3, x0', hpx2, ht, hm2, hb1, hb2]
          refine WS_cond (t := false) (by simp [s13, s8, s9, s11, s12, kw2, hlt, hlt2, hpk, w3, x0', hpx2, ht, hm2, hb1, hb2]) (fun h => by cases h) (fun _ => ?_)
          refine WS_exit ?_; simp [s13, s8, s9, s11, s12, kw2, hlt, hlt2, hpk, w3, x0', hpx2, ht, hm2, hb1, hb2]
          refine WS_seq (WS_reg [] ?_); simp [s13, s8, s9, s11, s12, kw2, hlt, hlt2, hpk, w3, x0', hpx2, ht, hm2, hb1, hb2]
          refine callK pp ?_; simp [s13, s8, s9, s11, s12, kw2, hlt, hlt2, hpk, w3, x0', hpx2, ht, hm2, hb1, hb2]
          refine callK pm ?_; simp [s13, s8, s9, s11, s12, kw2, hlt, hlt2, hpk, w3, x0', hpx2, ht, hm2, hb1, hb2]
          refine WS_ret ?_; simp [s13, s8, s9, s11, s12, kw2, hlt, hlt2, hpk, w3, x0', hpx2, ht, hm2, hb1, hb2]
    · by_cases hpx : p = x
      · subst hpx
        refine WS_seq (WS_seq (WS_reg [] ?_)); simp [s13, s8, s9, s11, s12, kw2, hlt, hpk, w3]
        refine WS_cond (t := false) (by simp [s13, s8, s9, s11, s12, kw2, hlt, hpk, w3]) (fun h => by cases h) (fun _ => ?_)
        refine WS_exit ?_; simp [s13, s8, s9, s11, s12, kw2, hlt, hpk, w3]
        refine WS_seq (WS_reg [] ?_); simp [s13, s8, s9, s11, s12, kw2, hlt, hpk, w3]
        refine callK pp ?_; simp [s13, s8, s9, s11, s12, kw2, hlt, hpk, w3]
        refine callK pm ?_; simp [s13, s8, s9, s11, s12, kw2, hlt, hpk, w3]
        refine WS_ret ?_; simp [s13, s8, s9, s11, s12, kw2, hlt, hpk, w3]
      · have hm := isP_rem hp.is x2 hpx
        have hm2 : ¬ (p : Int) % (x : Int) = 0 := by rw [← Int.natCast_emod]; omega
        have hpx2 : ¬ (p : Int) = (x : Int) := by omega
        have ht : (p : Int).tmod (x : Int) = (p : Int) % (x : Int) := Int.tmod_eq_emod_of_nonneg (by omega)
        have hb1 : ((p : Int) == (x : Int)) = false := by simpa using hpx2
        have hb2 : ((p : Int) % (x : Int) != 0) = true := by simpa using hm2
        refine WS_seq (WS_seq (WS_reg [] ?_)); simp [s13, s8, s9, s11, s12, kw2, hlt, hpk, w3, x0', hpx2, ht, hm2, hb1, hb2]
        refine WS_cond (t := false) (by simp [s13, s8, s9, s11, s12, kw2, hlt, hpk, w3, x0', hpx2, ht, hm2, hb1, hb2]) (fun h => by cases h) (fun _ => ?_)
        refine WS_exit ?_; simp [s13, s8, s9, s11, s12, kw2, hlt, hpk, w3, x0', hpx2, ht, hm2, hb1, hb2]
        refine WS_seq (WS_reg [] ?_); simp [s13, s8, s9, s11, s12, kw2, hlt, hpk, w3, x0', hpx2, ht, hm2, hb1, hb2]
        refine callK pp ?_; simp [s13, s8, s9, s11, s12, kw2, hlt, hpk, w3, x0', hpx2, ht, hm2, hb1, hb2]
        refine callK pm ?_; simp [s13, s8, s9, s11, s12, kw2, hlt, hpk, w3, x0', hpx2, ht, hm2, hb1, hb2]
        refine WS_ret ?_; simp [s13, s8, s9, s11, s12, kw2, hlt, hpk, w3, x0', hpx2, ht, hm2, hb1, hb2]
  · have nx := pnext_none (k : Int) (by omega)
    have hge : (65521 : Int) ≤ (k : Int) := by omega
    refine WS_seq (WS_reg [] ?_); simp [e1, e2, e3, w1, w2, hge]
    refine WS_seq (WS_reg [] ?_); simp [e1, e2, e3, w1, w2, hge]
    refine callK aw ?_; simp [e1, e2, e3, w1, w2, hge]
    refine WS_seq (WS_reg [] ?_); simp [e1, e2, e3, w1, w2, hge]
    refine WS_seq (WS_reg [] ?_); simp [e1, e2, e3, w1, w2, hge]
    refine callK nx ?_; simp [e1, e2, e3, w1, w2, hge]
    refine WS_seq (WS_reg [] ?_); simp [e1, e2, e3, w1, w2, hge]
    refine WS_seq (WS_reg [] ?_); simp [e1, e2, e3, w1, w2, hge]
    refine WS_seq (WS_seq (WS_reg [] ?_)); simp [e1, e2, e3, w1, w2, hge]
    refine WS_cond (t := true) (by simp [e1, e2, e3, w1, w2, hge]) (fun _ => ?_) (fun h => by cases h)
    refine WS_seq (WS_reg [] ?_); simp [e1, e2, e3, w1, w2, hge]
    refine WS_ret ?_; simp [e1, e2, e3, w1, w2, hge]
end Go.Vw
namespace Go.Vw
open Go.Proofs

attribute [local simp] RunL_cons RunL_nil AOp_none AOp_some acK_v acK_call agK_tt agK_ff agK_tf agK_ft agK_tup agK_i aop aun St.ev St.heap St.put thenQ blockQ scopeQ upd_apply S0 argSlot lowV V.cells V.isAgg V.fits V.part partOk plains St.ret retSV svOf svsOf retQ retP retAll retOne uL_length uL_get? uL_get St.elems retH ownIdx ownAt
attribute [local simp] RunD_none RunD_some RunD_nil RunE_any acD_v acD_call agD_tt agD_ff agD_tf agD_ft agD_tup entsOf svref SO.opds SO.writes SO.makes callEnt pureSV pureOf RV.isOwn
attribute [local simp] abin_add abin_sub abin_mul abin_quo abin_rem abin_eql abin_neq abin_lss abin_leq abin_gtr abin_geq
attribute [local simp] uL_snoc uL_set uL_take uL_drop uL_append uL_replicate uL_nil
attribute [local simp] acK_callG acD_callG St.giv gsSV gvSV retEnts ownEnts SO.still
attribute [local simp] S0G argSlotG givSV retQG retPG retAllG retOneG HObj.width V.scalar trimQ V.byte
attribute [local simp] zv V.fits fillOk fillV Z_eq rv Q_eq
set_option maxHeartbeats 1000000 in
theorem law_PrimeNear (n1 n2 : Bool) (l1 l2 : List Nat) (h1 : ZW (2 ^ 24) l1) (h2 : ZW (2 ^ 24) l2) :
    Spec Try.prog f_law04_PrimeNear [zv n1 l1, zv n2 l2] (· = [.pure (.b true)]) := by
  have fw : Spec Try.prog f_law04_few [.i .i64 30, .sl (some 2) [zv n1 l1, zv n2 l2]] (· = [.pure (.b (fewB 30 [(n1, l1), (n2, l2)]))]) := few4_two 30 (by omega) n1 n2 l1 l2
  have aw := awake4
  refine spec_at Try.func27 ok_law04_PrimeNear [] rfl (by simp) ?_
  unfold sc_law04_PrimeNear
  cases hf : fewB 30 [(n1, l1), (n2, l2)] with
  | false =>
    rw [hf] at fw
    refine WS_seq (WS_reg [] ?_); simp
    refine WS_seq (WS_reg [] ?_); simp
    refine callK aw ?_; simp
    refine WS_seq (WS_seq (WS_reg [] ?_)); simp
    refine callK fw ?_; simp
    refine WS_cond (t := true) (by simp) (fun _ => ?_) (fun h => by cases h)
    refine WS_seq (WS_reg [] ?_); simp
    refine WS_ret ?_; simp
  | true =>
    rw [hf] at fw
    obtain ⟨f1, f2⟩ := few_two hf
    have ia := isZ_zv (n := n1) (k := 30) ⟨h1.dl, f1⟩
    have im := isZ_zv (n := n2) (k := 30) ⟨h2.dl, f2⟩
    have rs := prest ia im (by omega)
    have nr := pnear ia im (by omega)
    have sg := zsign im (by omega)
    obtain ⟨a, ha⟩ : ∃ x, x = zi n1 l1 := ⟨_, rfl⟩
    obtain ⟨m, hm⟩ : ∃ x, x = zi n2 l2 := ⟨_, rfl⟩
    rw [← ha] at ia rs nr
    rw [← hm] at im rs nr sg
    have qa := ia.zlen
    have qm := im.zlen
    by_cases m0 : m ≤ 0
    · have hs : m.sign ≤ 0 := by rw [Int.sign_nonpos_iff]; exact m0
      rw [restR, if_pos m0] at rs
      rw [nearR, if_pos m0] at nr
      refine WS_seq (WS_reg [] ?_); simp [hs]
      refine WS_seq (WS_reg [] ?_); simp [hs]
      refine callK aw ?_; simp [hs]
      refine WS_seq (WS_seq (WS_reg [] ?_)); simp [hs]
      refine callK fw ?_; simp [hs]
      refine WS_cond (t := false) (by simp [hs]) (fun h => by cases h) (fun _ => ?_)
      refine WS_skip ?_; simp [hs]
      refine WS_seq (WS_reg [] ?_); simp [hs]
      refine callK rs ?_; simp [hs]
      refine WS_seq (WS_reg [] ?_); simp [hs]
      refine callK nr ?_; simp [hs]
      refine WS_seq (WS_seq (WS_reg [] ?_)); simp [hs]
      refine callK sg ?_; simp [hs]
      refine WS_cond (t := true) (by simp [hs]) (fun _ => ?_) (fun h => by cases h)
      refine WS_seq (WS_reg [] ?_); simp [hs]
      refine WS_ret ?_; simp [hs]
    · have hs : ¬ m.sign ≤ 0 := by rw [Int.sign_nonpos_iff]; exact m0
      rw [restR, if_neg m0] at rs
      rw [nearR, if_neg m0] at nr
      have e1 := sub_emod_self a m
      have e2 := sub_near a m
      obtain ⟨b1, b2⟩ := near_in (a := a) (m := m) (by omega)
      have r1 := Int.emod_nonneg a (show m ≠ 0 by omega)
      have r2 := Int.emod_lt_of_pos a (show 0 < m by omega)
      obtain ⟨r, hr⟩ : ∃ r, r = a % m := ⟨_, rfl⟩
      obtain ⟨n, hn⟩ : ∃ n, n = nearZ a m := ⟨_, rfl⟩
      rw [← hr] at rs e1 r1 r2
      rw [← hn] at nr e2 b1 b2
      have lr : zlen r ≤ 30 := Nat.le_trans (zlen_le (by omega)) qm
      have ln : zlen n ≤ 30 := Nat.le_trans (zlen_le (by omega)) qm
      clear hr hn
      have s1 := zsub ia (isZ_of lr) (by omega)
      have s2 := zsub ia (isZ_of ln) (by omega)
      have z1 := zlen_sub a r
      have z2 := zlen_sub a n
      have x1 := zexact (isZ_of (x := a - r) (k := 31) (by omega)) (im.mono (show 30 ≤ 31 by omega)) (by omega)
      rw [exactR, if_neg (by omega), if_pos e1] at x1
      have x2 := zexact (isZ_of (x := a - n) (k := 31) (by omega)) (im.mono (show 30 ≤ 31 by omega)) (by omega)
      rw [exactR, if_neg (by omega), if_pos e2] at x2
      obtain ⟨d1, hd1⟩ : ∃ d, d = a - r := ⟨_, rfl⟩
      obtain ⟨d2, hd2⟩ : ∃ d, d = a - n := ⟨_, rfl⟩
      rw [← hd1] at s1 x1
      rw [← hd2] at s2 x2
      have ad := zadd (isZ_of ln) (isZ_of ln) (by omega)
      have z3 := zlen_add n n
      have sr := zsign (isZ_of lr) (by omega)
      have cr := zcmp (isZ_of lr) im (by omega)
      have ng := zneg im (by omega)
      have lm : zlen (-m) ≤ 31 := by rw [zlen_neg]; omega
      have c1 := zcmp (isZ_of (x := n + n) (k := 31) (by omega)) (im.mono (show 30 ≤ 31 by omega)) (by omega)
      have c2 := zcmp (isZ_of (x := n + n) (k := 31) (by omega)) (isZ_of lm) (by omega)
      have t1 : 0 ≤ r.sign := by rw [Int.sign_nonneg_iff]; exact r1
      have t2 : (r - m).sign = -1 := sign_lt (by omega)
      have t3 : (n + n - m).sign ≤ 0 := by rw [Int.sign_nonpos_iff]; omega
      have t4 : (n + n - -m).sign = 1 := sign_gt (by omega)
      rw [t2] at cr
      rw [t4] at c2
      obtain ⟨tw, htw⟩ : ∃ t, t = n + n := ⟨_, rfl⟩
      rw [← htw] at ad c1 c2 t3
      refine WS_seq (WS_reg [] ?_); simp [hs, t1, t3]
      refine WS_seq (WS_reg [] ?_); simp [hs, t1, t3]
      refine callK aw ?_; simp [hs, t1, t3]
      refine WS_seq (WS_seq (WS_reg [] ?_)); simp [hs, t1, t3]
      refine callK fw ?_; simp [hs, t1, t3]
      refine WS_cond (t := false) (by simp [hs, t1, t3]) (fun h => by cases h) (fun _ => ?_)
      refine WS_skip ?_; simp [hs, t1, t3]
      refine WS_seq (WS_reg [] ?_); simp [hs, t1, t3]
      refine callK rs ?_; simp [hs, t1, t3]
      refine WS_seq (WS_reg [] ?_); simp [hs, t1, t3]
      refine callK nr ?_; simp [hs, t1, t3]
      refine WS_seq (WS_seq (WS_reg [] ?_)); simp [hs, t1, t3]
      refine callK sg ?_; simp [hs, t1, t3]
      refine WS_cond (t := false) (by simp [hs, t1, t3]) (fun h => by cases h) (fun _ => ?_)
      refine WS_skip ?_; simp [hs, t1, t3]
      refine WS_seq (WS_regD [] ?_); simp [hs, t1, t3]
      refine callD s1 rfl ?_; simp [hs, t1, t3]
      refine callD x1 rfl ?_; simp [hs, t1, t3]
      refine ⟨rfl, ?_⟩
      refine WS_seq (WS_regD [] ?_); simp [hs, t1, t3]
      refine callD s2 rfl ?_; simp [hs, t1, t3]
      refine callD x2 rfl ?_; simp [hs, t1, t3]
      refine ⟨rfl, ?_⟩
      refine WS_seq (WS_reg [] ?_); simp [hs, t1, t3]
      refine callK ad ?_; simp [hs, t1, t3]
      refine WS_seq (WS_regD [] ?_); simp [hs, t1, t3]
      refine callD sr rfl ?_; simp [hs, t1, t3]
      refine callD cr rfl ?_; simp [hs, t1, t3]
      refine callD c1 rfl ?_; simp [hs, t1, t3]
      refine callD ng rfl ?_; simp [hs, t1, t3]
      refine callD c2 rfl ?_; simp [hs, t1, t3]
      refine ⟨rfl, ?_⟩
      refine WS_ret ?_; simp [hs, t1, t3]

set_option maxHeartbeats 1000000 in
theorem law_PrimeKeeps (n1 n2 : Bool) (l1 l2 : List Nat) (h1 : ZW (2 ^ 24) l1) (h2 : ZW (2 ^ 24) l2) :
    Spec Try.prog f_law04_PrimeKeeps [zv n1 l1, zv n2 l2] (· = [.pure (.b true)]) := by
  have fw : Spec Try.prog f_law04_few [.i .i64 6, .sl (some 2) [zv n1 l1, zv n2 l2]] (· = [.pure (.b (fewB 6 [(n1, l1), (n2, l2)]))]) := few4_two 6 (by omega) n1 n2 l1 l2
  have aw := awake4
  refine spec_at Try.func26 ok_law04_PrimeKeeps [] rfl (by simp) ?_
  unfold sc_law04_PrimeKeeps
  cases hf : fewB 6 [(n1, l1), (n2, l2)] with
  | false =>
    rw [hf] at fw
    refine WS_seq (WS_reg [] ?_); simp
    refine WS_seq (WS_reg [] ?_); simp
    refine callK aw ?_; simp
    refine WS_seq (WS_seq (WS_reg [] ?_)); simp
    refine callK fw ?_; simp
    refine WS_cond (t := true) (by simp) (fun _ => ?_) (fun h => by cases h)
    refine WS_seq (WS_reg [] ?_); simp
    refine WS_ret ?_; simp
  | true =>
    rw [hf] at fw
    obtain ⟨f1, f2⟩ := few_two hf
    have ia := isZ_zv (n := n1) (k := 6) ⟨h1.dl, f1⟩
    have im := isZ_zv (n := n2) (k := 6) ⟨h2.dl, f2⟩
    have fr := pfrac ia im (by omega)
    have sg := zsign im (by omega)
    obtain ⟨a, ha⟩ : ∃ x, x = zi n1 l1 := ⟨_, rfl⟩
    obtain ⟨m, hm⟩ : ∃ x, x = zi n2 l2 := ⟨_, rfl⟩
    rw [← ha] at ia fr
    rw [← hm] at im fr sg
    have qa := ia.zlen
    have qm := im.zlen
    by_cases m0 : m ≤ 0
    · have hs : m.sign ≤ 0 := by rw [Int.sign_nonpos_iff]; exact m0
      rw [fracR, if_pos m0] at fr
      refine WS_seq (WS_reg [] ?_); simp [hs]
      refine WS_seq (WS_reg [] ?_); simp [hs]
      refine callK aw ?_; simp [hs]
      refine WS_seq (WS_seq (WS_reg [] ?_)); simp [hs]
      refine callK fw ?_; simp [hs]
      refine WS_cond (t := false) (by simp [hs]) (fun h => by cases h) (fun _ => ?_)
      refine WS_skip ?_; simp [hs]
      refine WS_seq (WS_reg [] ?_); simp [hs]
      refine callK fr ?_; simp [hs]
      refine WS_seq (WS_seq (WS_reg [] ?_)); simp [hs]
      refine WS_cond (t := true) (by simp [hs]) (fun _ => ?_) (fun h => by cases h)
      refine WS_seq (WS_reg [] ?_); simp [hs]
      refine callK sg ?_; simp [hs]
      refine WS_ret ?_; simp [hs]
    · have hs : 0 < m.sign := by rw [Int.sign_pos_iff]; omega
      rcases fracR_of (a := a) (m := m) (by omega) with e | ⟨q, e, hk⟩
      · rw [e] at fr
        refine WS_seq (WS_reg [] ?_); simp [hs]
        refine WS_seq (WS_reg [] ?_); simp [hs]
        refine callK aw ?_; simp [hs]
        refine WS_seq (WS_seq (WS_reg [] ?_)); simp [hs]
        refine callK fw ?_; simp [hs]
        refine WS_cond (t := false) (by simp [hs]) (fun h => by cases h) (fun _ => ?_)
        refine WS_skip ?_; simp [hs]
        refine WS_seq (WS_reg [] ?_); simp [hs]
        refine callK fr ?_; simp [hs]
        refine WS_seq (WS_seq (WS_reg [] ?_)); simp [hs]
        refine WS_cond (t := true) (by simp [hs]) (fun _ => ?_) (fun h => by cases h)
        refine WS_seq (WS_reg [] ?_); simp [hs]
        refine callK sg ?_; simp [hs]
        refine WS_ret ?_; simp [hs]
      · rw [e] at fr
        obtain ⟨k1, k2, k3⟩ := hk
        have o2 := zof 2 (by omega) (by omega)
        have np : ∀ x : Int, 2 * (x * x) < m → zlen x ≤ 6 := fun x hx => by
          refine Nat.le_trans (zlen_le ?_) qm
          have := Int.natAbs_mul_self' x
          have h3 : (x.natAbs : Int) ≤ (x.natAbs : Int) * (x.natAbs : Int) := by
            rcases Nat.eq_zero_or_pos x.natAbs with h | h
            · rw [h]; omega
            · have := Nat.mul_le_mul_right x.natAbs h
              rw [← Int.natCast_mul]; omega
          omega
        have ld := np _ k2
        have ln := np _ k3
        have dp : 0 < (q.den : Int) := by have := q.den_pos; omega
        have wd : ZW 6 (qd q.den) := ⟨qd_dl _, by rw [qd_len]; exact ld⟩
        have iz := isZ_zv (n := false) wd
        have ed : zi false (qd q.den) = (q.den : Int) := by simp [zi, qd_val]
        rw [ed] at iz
        have i2 := isZ_of (x := 2) (k := 14) (Nat.le_trans (zlen_small (by decide)) (by omega))
        have ih := isZ_of ln
        obtain ⟨N, hN⟩ : ∃ n, n = q.num := ⟨_, rfl⟩
        obtain ⟨D, hD⟩ : ∃ d : Int, d = (q.den : Int) := ⟨_, rfl⟩
        rw [← hN] at k1 k3 ln ih
        rw [← hD] at k1 k2 ld dp iz
        have m1 := zmul ia iz (by omega)
        have z1 := zlen_mul a D
        have s1 := zsub (isZ_of (x := a * D) (k := 12) (by omega)) (ih.mono (by omega)) (by omega)
        have z2 := zlen_sub (a * D) N
        have x1 := zexact (isZ_of (x := a * D - N) (k := 13) (by omega)) (im.mono (show 6 ≤ 13 by omega)) (by omega)
        rw [exactR, if_neg (by omega), if_pos k1] at x1
        have sd := zsign iz (by omega)
        rw [sign_gt dp] at sd
        have m2 := zmul iz iz (by omega)
        have z3 := zlen_mul D D
        have m3 := zmul i2 (isZ_of (x := D * D) (k := 14) (by omega)) (by omega)
        have z4 := zlen_mul 2 (D * D)
        have z5 := zlen_small (x := 2) (by decide)
        have c1 := zcmp (isZ_of (x := 2 * (D * D)) (k := 13) (by omega)) (im.mono (show 6 ≤ 13 by omega)) (by omega)
        rw [sign_lt (show 2 * (D * D) - m < 0 by omega)] at c1
        have m4 := zmul ih ih (by omega)
        have z6 := zlen_mul N N
        have m5 := zmul i2 (isZ_of (x := N * N) (k := 14) (by omega)) (by omega)
        have z7 := zlen_mul 2 (N * N)
        have c2 := zcmp (isZ_of (x := 2 * (N * N)) (k := 13) (by omega)) (im.mono (show 6 ≤ 13 by omega)) (by omega)
        rw [sign_lt (show 2 * (N * N) - m < 0 by omega)] at c2
        obtain ⟨y1, hy1⟩ : ∃ d, d = a * D := ⟨_, rfl⟩
        rw [← hy1] at m1 s1 x1
        obtain ⟨y2, hy2⟩ : ∃ d, d = y1 - N := ⟨_, rfl⟩
        rw [← hy2] at s1 x1
        obtain ⟨y3, hy3⟩ : ∃ d, d = D * D := ⟨_, rfl⟩
        rw [← hy3] at m2 m3 c1
        obtain ⟨y4, hy4⟩ : ∃ d, d = 2 * y3 := ⟨_, rfl⟩
        rw [← hy4] at m3 c1
        obtain ⟨y5, hy5⟩ : ∃ d, d = N * N := ⟨_, rfl⟩
        rw [← hy5] at m4 m5 c2
        obtain ⟨y6, hy6⟩ : ∃ d, d = 2 * y5 := ⟨_, rfl⟩
        rw [← hy6] at m5 c2
        rw [hN] at s1 m4
        refine WS_seq (WS_reg [] ?_); simp
        refine WS_seq (WS_reg [] ?_); simp
        refine callK aw ?_; simp
        refine WS_seq (WS_seq (WS_reg [] ?_)); simp
        refine callK fw ?_; simp
        refine WS_cond (t := false) (by simp) (fun h => by cases h) (fun _ => ?_)
        refine WS_skip ?_; simp
        refine WS_seq (WS_reg [] ?_); simp
        refine callK fr ?_; simp
        refine WS_seq (WS_seq (WS_reg [] ?_)); simp
        refine WS_cond (t := false) (by simp) (fun h => by cases h) (fun _ => ?_)
        refine WS_skip ?_; simp
        refine WS_seq (WS_reg [] ?_); simp
        refine WS_seq (WS_reg [] ?_); simp
        refine callK o2 ?_; simp
        refine WS_seq (WS_regD [] ?_); simp
        refine callD m1 rfl ?_; simp
        refine callD s1 rfl ?_; simp
        refine callD x1 rfl ?_; simp
        refine ⟨rfl, ?_⟩
        refine WS_seq (WS_regD [] ?_); simp
        refine callD sd rfl ?_; simp
        refine callD m2 rfl ?_; simp
        refine callD m3 rfl ?_; simp
        refine callD c1 rfl ?_; simp
        refine callD m4 rfl ?_; simp
        refine callD m5 rfl ?_; simp
        refine callD c2 rfl ?_; simp
        refine ⟨rfl, ?_⟩
        refine WS_ret ?_; simp
end Go.Vw
namespace Go.Vw
open Go.Proofs

attribute [local simp] RunL_cons RunL_nil AOp_none AOp_some acK_v acK_call agK_tt agK_ff agK_tf agK_ft agK_tup agK_i aop aun St.ev St.heap St.put thenQ blockQ scopeQ upd_apply S0 argSlot lowV V.cells V.isAgg V.fits V.part partOk plains St.ret retSV svOf svsOf retQ retP retAll retOne uL_length uL_get? uL_get St.elems retH ownIdx ownAt
attribute [local simp] RunD_none RunD_some RunD_nil RunE_any acD_v acD_call agD_tt agD_ff agD_tf agD_ft agD_tup entsOf svref SO.opds SO.writes SO.makes callEnt pureSV pureOf RV.isOwn
attribute [local simp] abin_add abin_sub abin_mul abin_quo abin_rem abin_eql abin_neq abin_lss abin_leq abin_gtr abin_geq
attribute [local simp] uL_snoc uL_set uL_take uL_drop uL_append uL_replicate uL_nil
attribute [local simp] acK_callG acD_callG St.giv gsSV gvSV retEnts ownEnts SO.still
attribute [local simp] S0G argSlotG givSV retQG retPG retAllG retOneG HObj.width V.scalar trimQ V.byte
attribute [local simp] zv V.fits fillOk fillV Z_eq
set_option maxHeartbeats 2000000 in
theorem law_PrimeBoth (n1 n2 n3 n4 n5 : Bool) (l1 l2 l3 l4 l5 : List Nat) (h1 : ZW (2 ^ 24) l1) (h2 : ZW (2 ^ 24) l2) (h3 : ZW (2 ^ 24) l3) (h4 : ZW (2 ^ 24) l4) (h5 : ZW (2 ^ 24) l5) :
    Spec Try.prog f_law04_PrimeBoth [zv n1 l1, zv n2 l2, zv n3 l3, zv n4 l4, zv n5 l5] (· = [.pure (.b true)]) := by
  have fw : Spec Try.prog f_law04_few [.i .i64 6, .sl (some 2) [zv n1 l1, zv n2 l2, zv n3 l3, zv n4 l4, zv n5 l5]] (· = [.pure (.b (fewB 6 [(n1, l1), (n2, l2), (n3, l3), (n4, l4), (n5, l5)]))]) := few4_five 6 (by omega) n1 n2 n3 n4 n5 l1 l2 l3 l4 l5
  have aw := awake4
  refine spec_at Try.func24 ok_law04_PrimeBoth [] rfl (by simp) ?_
  unfold sc_law04_PrimeBoth
  cases hf : fewB 6 [(n1, l1), (n2, l2), (n3, l3), (n4, l4), (n5, l5)] with
  | false =>
    rw [hf] at fw
    refine WS_seq (WS_reg [] ?_); simp
    refine WS_seq (WS_reg [] ?_); simp
    refine callK aw ?_; simp
    refine WS_seq (WS_seq (WS_reg [] ?_)); simp
    refine callK fw ?_; simp
    refine WS_cond (t := true) (by simp) (fun _ => ?_) (fun h => by cases h)
    refine WS_seq (WS_reg [] ?_); simp
    refine WS_ret ?_; simp
  | true =>
    rw [hf] at fw
    obtain ⟨f1, f2, f3, f4, f5⟩ := few_five hf
    have ia := isZ_zv (n := n1) (k := 6) ⟨h1.dl, f1⟩
    have im := isZ_zv (n := n2) (k := 6) ⟨h2.dl, f2⟩
    have ib := isZ_zv (n := n3) (k := 6) ⟨h3.dl, f3⟩
    have iN := isZ_zv (n := n4) (k := 6) ⟨h4.dl, f4⟩
    have ic := isZ_zv (n := n5) (k := 6) ⟨h5.dl, f5⟩
    have cr := pcrt ia im ib iN (by omega)
    have sm := zsign im (by omega)
    have sn := zsign iN (by omega)
    have gd := zgcd im iN (by omega)
    obtain ⟨a, ha⟩ : ∃ x, x = zi n1 l1 := ⟨_, rfl⟩
    obtain ⟨m, hm⟩ : ∃ x, x = zi n2 l2 := ⟨_, rfl⟩
    obtain ⟨b, hb⟩ : ∃ x, x = zi n3 l3 := ⟨_, rfl⟩
    obtain ⟨n, hn⟩ : ∃ x, x = zi n4 l4 := ⟨_, rfl⟩
    obtain ⟨c, hc⟩ : ∃ x, x = zi n5 l5 := ⟨_, rfl⟩
    rw [← ha] at ia cr
    rw [← hm] at im cr sm gd
    rw [← hb] at ib cr
    rw [← hn] at iN cr sn gd
    rw [← hc] at ic
    have qa := ia.zlen
    have qm := im.zlen
    have qb := ib.zlen
    have qn := iN.zlen
    have qc := ic.zlen
    have gl := gcd_len qm qn
    have o1 := zof 1 (by omega) (by omega)
    by_cases m0 : m ≤ 0
    · have hs : m.sign ≤ 0 := by rw [Int.sign_nonpos_iff]; exact m0
      rw [crtR, if_pos (.inl m0)] at cr
      refine WS_seq (WS_reg [] ?_); simp [hs]
      refine WS_seq (WS_reg [] ?_); simp [hs]
      refine callK aw ?_; simp [hs]
      refine WS_seq (WS_seq (WS_reg [] ?_)); simp [hs]
      refine callK fw ?_; simp [hs]
      refine WS_cond (t := false) (by simp [hs]) (fun h => by cases h) (fun _ => ?_)
      refine WS_skip ?_; simp [hs]
      refine WS_seq (WS_reg [] ?_); simp [hs]
      refine callK cr ?_; simp [hs]
      refine WS_seq (WS_seq (WS_reg [] ?_)); simp [hs]
      refine callK sm ?_; simp [hs]
      refine WS_cond (t := true) (by simp [hs]) (fun _ => ?_) (fun h => by cases h)
      refine WS_seq (WS_reg [] ?_); simp [hs]
      refine WS_ret ?_; simp [hs]
    · have hs : ¬ m.sign ≤ 0 := by rw [Int.sign_nonpos_iff]; exact m0
      by_cases n0 : n ≤ 0
      · have hs2 : n.sign ≤ 0 := by rw [Int.sign_nonpos_iff]; exact n0
        rw [crtR, if_pos (.inr (.inl n0))] at cr
        refine WS_seq (WS_reg [] ?_); simp [hs, hs2]
        refine WS_seq (WS_reg [] ?_); simp [hs, hs2]
        refine callK aw ?_; simp [hs, hs2]
        refine WS_seq (WS_seq (WS_reg [] ?_)); simp [hs, hs2]
        refine callK fw ?_; simp [hs, hs2]
        refine WS_cond (t := false) (by simp [hs, hs2]) (fun h => by cases h) (fun _ => ?_)
        refine WS_skip ?_; simp [hs, hs2]
        refine WS_seq (WS_reg [] ?_); simp [hs, hs2]
        refine callK cr ?_; simp [hs, hs2]
        refine WS_seq (WS_seq (WS_reg [] ?_)); simp [hs, hs2]
        refine callK sm ?_; simp [hs, hs2]
        refine callK sn ?_; simp [hs, hs2]
        refine WS_cond (t := true) (by simp [hs, hs2]) (fun _ => ?_) (fun h => by cases h)
        refine WS_seq (WS_reg [] ?_); simp [hs, hs2]
        refine WS_ret ?_; simp [hs, hs2]
      · have hs2 : ¬ n.sign ≤ 0 := by rw [Int.sign_nonpos_iff]; exact n0
        have cm := zcmp (isZ_of gl) (isZ_of (x := 1) (k := 6) (Nat.le_trans zlen_one (by omega))) (by omega)
        by_cases g1 : (Int.gcd m n : Int) = 1
        · obtain ⟨b1, b2⟩ := crt_both (a := a) (m := m) (b := b) (n := n) g1
          have cr2 := pcrt ic im ic iN (by omega)
          rw [crtR, if_neg (by omega)] at cr cr2
          rw [crt_same] at cr2
          have mnp : 0 < m * n := Int.mul_pos (show 0 < m by omega) (show 0 < n by omega)
          have hx : crtZ a m b n = (a + m * ((b - a) * bezS m n % n)) % (m * n) := rfl
          have x1 := Int.emod_nonneg (a + m * ((b - a) * bezS m n % n)) (show m * n ≠ 0 by omega)
          have x2 := Int.emod_lt_of_pos (a + m * ((b - a) * bezS m n % n)) mnp
          rw [← hx] at x1 x2
          clear hx
          obtain ⟨x, hx⟩ : ∃ x, x = crtZ a m b n := ⟨_, rfl⟩
          rw [← hx] at x1 x2 cr b1 b2
          have zp := zlen_mul m n
          have mp := zmul im iN (by omega)
          obtain ⟨p, hp⟩ : ∃ p, p = m * n := ⟨_, rfl⟩
          rw [← hp] at x2 zp mp mnp cr2
          have zx : zlen x ≤ 12 := Nat.le_trans (zlen_le (y := p) (by omega)) (by omega)
          rw [g1, Int.sub_self, Int.sign_zero] at cm
          rw [g1] at gd
          have s1 := zsub (isZ_of zx) (ia.mono (show 6 ≤ 12 by omega)) (by omega)
          have s2 := zsub (isZ_of zx) (ib.mono (show 6 ≤ 12 by omega)) (by omega)
          have z1 := zlen_sub x a
          have z2 := zlen_sub x b
          have e1 := zexact (isZ_of (x := x - a) (k := 13) (by omega)) (im.mono (show 6 ≤ 13 by omega)) (by omega)
          rw [exactR, if_neg (by omega), if_pos b1] at e1
          have e2 := zexact (isZ_of (x := x - b) (k := 13) (by omega)) (iN.mono (show 6 ≤ 13 by omega)) (by omega)
          rw [exactR, if_neg (by omega), if_pos b2] at e2
          obtain ⟨d1, hd1⟩ : ∃ d, d = x - a := ⟨_, rfl⟩
          obtain ⟨d2, hd2⟩ : ∃ d, d = x - b := ⟨_, rfl⟩
          rw [← hd1] at s1 e1
          rw [← hd2] at s2 e2
          have rs := prest (ic.mono (show 6 ≤ 12 by omega)) (isZ_of (x := p) (k := 12) (by omega)) (by omega)
          rw [restR, if_neg (by omega)] at rs
          have sx := zsign (isZ_of zx) (by omega)
          have t1 : 0 ≤ x.sign := by rw [Int.sign_nonneg_iff]; exact x1
          have cx := zcmp (isZ_of zx) (isZ_of (x := p) (k := 12) (by omega)) (by omega)
          rw [sign_lt (show x - p < 0 by omega)] at cx
          have sa := same4 (c % p) (by have := zlen_emod c p (by omega); omega)
          obtain ⟨y, hy⟩ : ∃ y, y = c % p := ⟨_, rfl⟩
          rw [← hy] at cr2 rs sa
          refine WS_seq (WS_reg [] ?_); simp [hs, hs2, t1]
          refine WS_seq (WS_reg [] ?_); simp [hs, hs2, t1]
          refine callK aw ?_; simp [hs, hs2, t1]
          refine WS_seq (WS_seq (WS_reg [] ?_)); simp [hs, hs2, t1]
          refine callK fw ?_; simp [hs, hs2, t1]
          refine WS_cond (t := false) (by simp [hs, hs2, t1]) (fun h => by cases h) (fun _ => ?_)
          refine WS_skip ?_; simp [hs, hs2, t1]
          refine WS_seq (WS_reg [] ?_); simp [hs, hs2, t1]
          refine callK cr ?_; simp [hs, hs2, t1]
          refine WS_seq (WS_seq (WS_reg [] ?_)); simp [hs, hs2, t1]
          refine callK sm ?_; simp [hs, hs2, t1]
          refine callK sn ?_; simp [hs, hs2, t1]
          refine callK gd ?_; simp [hs, hs2, t1]
          refine callK o1 ?_; simp [hs, hs2, t1]
          refine callK cm ?_; simp [hs, hs2, t1]
          refine WS_cond (t := false) (by simp [hs, hs2, t1]) (fun h => by cases h) (fun _ => ?_)
          refine WS_skip ?_; simp [hs, hs2, t1]
          refine WS_seq (WS_regD [] ?_); simp [hs, hs2, t1]
          refine callD s1 rfl ?_; simp [hs, hs2, t1]
          refine callD e1 rfl ?_; simp [hs, hs2, t1]
          refine ⟨rfl, ?_⟩
          refine WS_seq (WS_regD [] ?_); simp [hs, hs2, t1]
          refine callD s2 rfl ?_; simp [hs, hs2, t1]
          refine callD e2 rfl ?_; simp [hs, hs2, t1]
          refine ⟨rfl, ?_⟩
          refine WS_seq (WS_reg [] ?_); simp [hs, hs2, t1]
          refine callK mp ?_; simp [hs, hs2, t1]
          refine WS_seq (WS_reg [] ?_); simp [hs, hs2, t1]
          refine callK cr2 ?_; simp [hs, hs2, t1]
          refine WS_seq (WS_reg [] ?_); simp [hs, hs2, t1]
          refine callK rs ?_; simp [hs, hs2, t1]
          refine WS_seq (WS_reg [] ?_); simp [hs, hs2, t1]
          refine callK sx ?_; simp [hs, hs2, t1]
          refine callK cx ?_; simp [hs, hs2, t1]
          refine callK sa ?_; simp [hs, hs2, t1]
          refine WS_ret ?_; simp [hs, hs2, t1]
        · rw [crtR, if_pos (.inr (.inr g1))] at cr
          have hs3 : ¬ ((Int.gcd m n : Int) - 1).sign = 0 := by rw [Int.sign_eq_zero_iff_zero]; omega
          obtain ⟨G, hG⟩ : ∃ g : Int, g = (Int.gcd m n : Int) := ⟨_, rfl⟩
          rw [← hG] at gd cm hs3
          refine WS_seq (WS_reg [] ?_); simp [hs, hs2, hs3]
          refine WS_seq (WS_reg [] ?_); simp [hs, hs2, hs3]
          refine callK aw ?_; simp [hs, hs2, hs3]
          refine WS_seq (WS_seq (WS_reg [] ?_)); simp [hs, hs2, hs3]
          refine callK fw ?_; simp [hs, hs2, hs3]
          refine WS_cond (t := false) (by simp [hs, hs2, hs3]) (fun h => by cases h) (fun _ => ?_)
          refine WS_skip ?_; simp [hs, hs2, hs3]
          refine WS_seq (WS_reg [] ?_); simp [hs, hs2, hs3]
          refine callK cr ?_; simp [hs, hs2, hs3]
          refine WS_seq (WS_seq (WS_reg [] ?_)); simp [hs, hs2, hs3]
          refine callK sm ?_; simp [hs, hs2, hs3]
          refine callK sn ?_; simp [hs, hs2, hs3]
          refine callK gd ?_; simp [hs, hs2, hs3]
          refine callK o1 ?_; simp [hs, hs2, hs3]
          refine callK cm ?_; simp [hs, hs2, hs3]
          refine WS_cond (t := true) (by simp [hs, hs2, hs3]) (fun _ => ?_) (fun h => by cases h)
          refine WS_seq (WS_reg [] ?_); simp [hs, hs2, hs3]
          refine WS_ret ?_; simp [hs, hs2, hs3]

attribute [local simp] rv Q_eq
set_option maxHeartbeats 2000000 in
theorem law_PrimeFinds (n1 n2 n3 : Bool) (l1 l2 l3 : List Nat) (h1 : ZW (2 ^ 24) l1) (h2 : ZW (2 ^ 24) l2) (h3 : ZW (2 ^ 24) l3) :
    Spec Try.prog f_law04_PrimeFinds [zv n1 l1, zv n2 l2, zv n3 l3] (· = [.pure (.b true)]) := by
  have fw : Spec Try.prog f_law04_few [.i .i64 6, .sl (some 2) [zv n1 l1, zv n2 l2, zv n3 l3]] (· = [.pure (.b (fewB 6 [(n1, l1), (n2, l2), (n3, l3)]))]) := few4_three 6 (by omega) n1 n2 n3 l1 l2 l3
  have aw := awake4
  refine spec_at Try.func25 ok_law04_PrimeFinds [] rfl (by simp) ?_
  unfold sc_law04_PrimeFinds
  cases hf : fewB 6 [(n1, l1), (n2, l2), (n3, l3)] with
  | false =>
    rw [hf] at fw
    refine WS_seq (WS_reg [] ?_); simp
    refine WS_seq (WS_reg [] ?_); simp
    refine callK aw ?_; simp
    refine WS_seq (WS_seq (WS_reg [] ?_)); simp
    refine callK fw ?_; simp
    refine WS_cond (t := true) (by simp) (fun _ => ?_) (fun h => by cases h)
    refine WS_seq (WS_reg [] ?_); simp
    refine WS_ret ?_; simp
  | true =>
    rw [hf] at fw
    obtain ⟨f1, f2, f3⟩ := few_three hf
    have iN := isZ_zv (n := n1) (k := 6) ⟨h1.dl, f1⟩
    have id := isZ_zv (n := n2) (k := 6) ⟨h2.dl, f2⟩
    have im := isZ_zv (n := n3) (k := 6) ⟨h3.dl, f3⟩
    have sm := zsign im (by omega)
    have sd := zsign id (by omega)
    have bz := zbezout im id (by omega)
    have mk := zmake iN id (by omega)
    obtain ⟨n, hn⟩ : ∃ x, x = zi n1 l1 := ⟨_, rfl⟩
    obtain ⟨d, hd⟩ : ∃ x, x = zi n2 l2 := ⟨_, rfl⟩
    obtain ⟨m, hm⟩ : ∃ x, x = zi n3 l3 := ⟨_, rfl⟩
    rw [← hn] at iN mk
    rw [← hd] at id sd bz mk
    rw [← hm] at im sm bz
    have qn := iN.zlen
    have qd' := id.zlen
    have qm := im.zlen
    by_cases m0 : m ≤ 0
    · have hs : m.sign ≤ 0 := by rw [Int.sign_nonpos_iff]; exact m0
      refine WS_seq (WS_reg [] ?_); simp [hs]
      refine WS_seq (WS_reg [] ?_); simp [hs]
      refine callK aw ?_; simp [hs]
      refine WS_seq (WS_seq (WS_reg [] ?_)); simp [hs]
      refine callK fw ?_; simp [hs]
      refine callK sm ?_; simp [hs]
      refine WS_cond (t := true) (by simp [hs]) (fun _ => ?_) (fun h => by cases h)
      refine WS_seq (WS_reg [] ?_); simp [hs]
      refine WS_ret ?_; simp [hs]
    · have hs : ¬ m.sign ≤ 0 := by rw [Int.sign_nonpos_iff]; exact m0
      by_cases d0 : d ≤ 0
      · have hs2 : d.sign ≤ 0 := by rw [Int.sign_nonpos_iff]; exact d0
        refine WS_seq (WS_reg [] ?_); simp [hs, hs2]
        refine WS_seq (WS_reg [] ?_); simp [hs, hs2]
        refine callK aw ?_; simp [hs, hs2]
        refine WS_seq (WS_seq (WS_reg [] ?_)); simp [hs, hs2]
        refine callK fw ?_; simp [hs, hs2]
        refine callK sm ?_; simp [hs, hs2]
        refine callK sd ?_; simp [hs, hs2]
        refine WS_cond (t := true) (by simp [hs, hs2]) (fun _ => ?_) (fun h => by cases h)
        refine WS_seq (WS_reg [] ?_); simp [hs, hs2]
        refine WS_ret ?_; simp [hs, hs2]
      · have hs2 : ¬ d.sign ≤ 0 := by rw [Int.sign_nonpos_iff]; exact d0
        have o1 := zof 1 (by omega) (by omega)
        have o2 := zof 2 (by omega) (by omega)
        have gl := gcd_len qm qd'
        have cm := zcmp (isZ_of gl) (isZ_of (x := 1) (k := 6) (Nat.le_trans zlen_one (by omega))) (by omega)
        rw [bezR] at bz
        by_cases g1 : (Int.gcd m d : Int) = 1
        · rw [g1, Int.sub_self, Int.sign_zero] at cm
          obtain ⟨k, hk⟩ := finds_rest (n := n) g1
          have i2 := isZ_of (x := 2) (k := 12) (Nat.le_trans (zlen_small (by decide)) (by omega))
          have z2 := zlen_small (x := 2) (by decide)
          have m1 := zmul iN iN (by omega)
          have z3 := zlen_mul n n
          have m2 := zmul i2 (isZ_of (x := n * n) (k := 12) (by omega)) (by omega)
          have z4 := zlen_mul 2 (n * n)
          have c1 := zcmp (isZ_of (x := 2 * (n * n)) (k := 13) (by omega)) (im.mono (show 6 ≤ 13 by omega)) (by omega)
          have m3 := zmul id id (by omega)
          have z5 := zlen_mul d d
          have m4 := zmul i2 (isZ_of (x := d * d) (k := 12) (by omega)) (by omega)
          have z6 := zlen_mul 2 (d * d)
          have c2 := zcmp (isZ_of (x := 2 * (d * d)) (k := 13) (by omega)) (im.mono (show 6 ≤ 13 by omega)) (by omega)
          have g2 : Int.gcd m d = 1 := by omega
          have ff := frac_finds (a := n * bezT m d) (m := m) (n := n) (d := d) (k := k) (by omega) (by omega)
          have tl := bezT_len (a := m) (b := d) qm
          have m5 := zmul (iN.mono (show 6 ≤ 7 by omega)) (isZ_of (x := bezT m d) (k := 7) (by omega)) (by omega)
          have z7 := zlen_mul n (bezT m d)
          have fr := pfrac (isZ_of (x := n * bezT m d) (k := 13) (by omega)) (im.mono (show 6 ≤ 13 by omega)) (by omega)
          rw [g1] at bz
          obtain ⟨T, hT⟩ : ∃ t, t = bezT m d := ⟨_, rfl⟩
          rw [← hT] at bz hk ff m5 fr
          obtain ⟨S, hS⟩ : ∃ t, t = bezS m d := ⟨_, rfl⟩
          rw [← hS] at bz
          clear z2 z3 z4 z5 z6 z7 hT hS
          by_cases k2 : 2 * (n * n) < m
          · rw [sign_lt (show 2 * (n * n) - m < 0 by omega)] at c1
            by_cases k3 : 2 * (d * d) < m
            · rw [sign_lt (show 2 * (d * d) - m < 0 by omega)] at c2
              obtain ⟨w1, w2, w3, w4⟩ := ff k2 k3 g2 hk
              rw [fracR, if_neg m0, if_neg (by omega), makeR, if_neg w3, w4] at fr
              rw [makeR, if_neg (by omega)] at mk
              have ql := divInt_len (x := n) (y := d) qn qd'
              obtain ⟨q, hq⟩ : ∃ q, q = Rat.divInt n d := ⟨_, rfl⟩
              rw [← hq] at fr mk ql
              have sa := qsame (zn q.num) (zl q.num) (qd q.den) (by have := ql.num; rw [zlen] at this; omega) (by rw [qd_len]; have := ql.den; omega)
              clear hk w1 w2 w3 w4 ff
              obtain ⟨y1, hy1⟩ : ∃ d, d = n * n := ⟨_, rfl⟩
              rw [← hy1] at m1 m2
              obtain ⟨y2, hy2⟩ : ∃ d, d = 2 * y1 := ⟨_, rfl⟩
              obtain ⟨y3, hy3⟩ : ∃ e, e = d * d := ⟨_, rfl⟩
              rw [← hy3] at m3 m4
              rw [← hy1] at c1
              rw [← hy3] at c2
              obtain ⟨y5, hy5⟩ : ∃ e, e = n * T := ⟨_, rfl⟩
              rw [← hy5] at m5 fr
              refine WS_seq (WS_reg [] ?_); simp [hs, hs2]
              refine WS_seq (WS_reg [] ?_); simp [hs, hs2]
              refine callK aw ?_; simp [hs, hs2]
              refine WS_seq (WS_seq (WS_reg [] ?_)); simp [hs, hs2]
              refine callK fw ?_; simp [hs, hs2]
              refine callK sm ?_; simp [hs, hs2]
              refine callK sd ?_; simp [hs, hs2]
              refine WS_cond (t := false) (by simp [hs, hs2]) (fun h => by cases h) (fun _ => ?_)
              refine WS_skip ?_; simp [hs, hs2]
              refine WS_seq (WS_reg [] ?_); simp [hs, hs2]
              refine callK bz ?_; simp [hs, hs2]
              refine WS_seq (WS_reg [] ?_); simp [hs, hs2]
              refine callK o2 ?_; simp [hs, hs2]
              refine WS_seq (WS_seq (WS_regD [] ?_)); simp [hs, hs2]
              refine callD o1 rfl ?_; simp [hs, hs2]
              refine callD cm rfl ?_; simp [hs, hs2]
              refine callD m1 rfl ?_; simp [hs, hs2]
              refine callD m2 rfl ?_; simp [hs, hs2]
              refine callD c1 rfl ?_; simp [hs, hs2]
              refine callD m3 rfl ?_; simp [hs, hs2]
              refine callD m4 rfl ?_; simp [hs, hs2]
              refine callD c2 rfl ?_; simp [hs, hs2]
              refine ⟨rfl, ?_⟩
              refine WS_cond (t := false) (by simp [hs, hs2]) (fun h => by cases h) (fun _ => ?_)
              refine WS_skip ?_; simp [hs, hs2]
              refine WS_seq (WS_regD [] ?_); simp [hs, hs2]
              refine callD m5 rfl ?_; simp [hs, hs2]
              refine callD fr rfl ?_; simp [hs, hs2]
              refine ⟨rfl, ?_⟩
              refine WS_seq (WS_reg [] ?_); simp [hs, hs2]
              refine callK mk ?_; simp [hs, hs2]
              refine WS_seq (WS_reg [] ?_); simp [hs, hs2]
              refine callK sa ?_; simp [hs, hs2]
              refine WS_ret ?_; simp [hs, hs2]
            · have t2 : 0 ≤ (2 * (d * d) - m).sign := by rw [Int.sign_nonneg_iff]; omega
              obtain ⟨y2, hy2⟩ : ∃ s, s = (2 * (d * d) - m).sign := ⟨_, rfl⟩
              rw [← hy2] at c2 t2
              refine WS_seq (WS_reg [] ?_); simp [hs, hs2, t2]
              refine WS_seq (WS_reg [] ?_); simp [hs, hs2, t2]
              refine callK aw ?_; simp [hs, hs2, t2]
              refine WS_seq (WS_seq (WS_reg [] ?_)); simp [hs, hs2, t2]
              refine callK fw ?_; simp [hs, hs2, t2]
              refine callK sm ?_; simp [hs, hs2, t2]
              refine callK sd ?_; simp [hs, hs2, t2]
              refine WS_cond (t := false) (by simp [hs, hs2, t2]) (fun h => by cases h) (fun _ => ?_)
              refine WS_skip ?_; simp [hs, hs2, t2]
              refine WS_seq (WS_reg [] ?_); simp [hs, hs2, t2]
              refine callK bz ?_; simp [hs, hs2, t2]
              refine WS_seq (WS_reg [] ?_); simp [hs, hs2, t2]
              refine callK o2 ?_; simp [hs, hs2, t2]
              refine WS_seq (WS_seq (WS_regD [] ?_)); simp [hs, hs2, t2]
              refine callD o1 rfl ?_; simp [hs, hs2, t2]
              refine callD cm rfl ?_; simp [hs, hs2, t2]
              refine callD m1 rfl ?_; simp [hs, hs2, t2]
              refine callD m2 rfl ?_; simp [hs, hs2, t2]
              refine callD c1 rfl ?_; simp [hs, hs2, t2]
              refine callD m3 rfl ?_; simp [hs, hs2, t2]
              refine callD m4 rfl ?_; simp [hs, hs2, t2]
              refine callD c2 rfl ?_; simp [hs, hs2, t2]
              refine ⟨rfl, ?_⟩
              refine WS_cond (t := true) (by simp [hs, hs2, t2]) (fun _ => ?_) (fun h => by cases h)
              refine WS_seq (WS_reg [] ?_); simp [hs, hs2, t2]
              refine WS_ret ?_; simp [hs, hs2, t2]
          · have t1 : 0 ≤ (2 * (n * n) - m).sign := by rw [Int.sign_nonneg_iff]; omega
            obtain ⟨y2, hy2⟩ : ∃ s, s = (2 * (n * n) - m).sign := ⟨_, rfl⟩
            rw [← hy2] at c1 t1
            refine WS_seq (WS_reg [] ?_); simp [hs, hs2, t1]
            refine WS_seq (WS_reg [] ?_); simp [hs, hs2, t1]
            refine callK aw ?_; simp [hs, hs2, t1]
            refine WS_seq (WS_seq (WS_reg [] ?_)); simp [hs, hs2, t1]
            refine callK fw ?_; simp [hs, hs2, t1]
            refine callK sm ?_; simp [hs, hs2, t1]
            refine callK sd ?_; simp [hs, hs2, t1]
            refine WS_cond (t := false) (by simp [hs, hs2, t1]) (fun h => by cases h) (fun _ => ?_)
            refine WS_skip ?_; simp [hs, hs2, t1]
            refine WS_seq (WS_reg [] ?_); simp [hs, hs2, t1]
            refine callK bz ?_; simp [hs, hs2, t1]
            refine WS_seq (WS_reg [] ?_); simp [hs, hs2, t1]
            refine callK o2 ?_; simp [hs, hs2, t1]
            refine WS_seq (WS_seq (WS_regD [] ?_)); simp [hs, hs2, t1]
            refine callD o1 rfl ?_; simp [hs, hs2, t1]
            refine callD cm rfl ?_; simp [hs, hs2, t1]
            refine callD m1 rfl ?_; simp [hs, hs2, t1]
            refine callD m2 rfl ?_; simp [hs, hs2, t1]
            refine callD c1 rfl ?_; simp [hs, hs2, t1]
            refine ⟨rfl, ?_⟩
            refine WS_cond (t := true) (by simp [hs, hs2, t1]) (fun _ => ?_) (fun h => by cases h)
            refine WS_seq (WS_reg [] ?_); simp [hs, hs2, t1]
            refine WS_ret ?_; simp [hs, hs2, t1]
        · have hs3 : ¬ ((Int.gcd m d : Int) - 1).sign = 0 := by rw [Int.sign_eq_zero_iff_zero]; omega
          obtain ⟨G, hG⟩ : ∃ g : Int, g = (Int.gcd m d : Int) := ⟨_, rfl⟩
          rw [← hG] at bz cm hs3
          have hb3 : ((G - 1).sign != 0) = true := by simpa using hs3
          refine WS_seq (WS_reg [] ?_); simp [hs, hs2, hs3, hb3]
          refine WS_seq (WS_reg [] ?_); simp [hs, hs2, hs3, hb3]
          refine callK aw ?_; simp [hs, hs2, hs3, hb3]
          refine WS_seq (WS_seq (WS_reg [] ?_)); simp [hs, hs2, hs3, hb3]
          refine callK fw ?_; simp [hs, hs2, hs3, hb3]
          refine callK sm ?_; simp [hs, hs2, hs3, hb3]
          refine callK sd ?_; simp [hs, hs2, hs3, hb3]
          refine WS_cond (t := false) (by simp [hs, hs2, hs3, hb3]) (fun h => by cases h) (fun _ => ?_)
          refine WS_skip ?_; simp [hs, hs2, hs3, hb3]
          refine WS_seq (WS_reg [] ?_); simp [hs, hs2, hs3, hb3]
          refine callK bz ?_; simp [hs, hs2, hs3, hb3]
          refine WS_seq (WS_reg [] ?_); simp [hs, hs2, hs3, hb3]
          refine callK o2 ?_; simp [hs, hs2, hs3, hb3]
          refine WS_seq (WS_seq (WS_regD [] ?_)); simp [hs, hs2, hs3, hb3]
          refine callD o1 rfl ?_; simp [hs, hs2, hs3, hb3]
          refine callD cm rfl ?_; simp [hs, hs2, hs3, hb3]
          refine ⟨rfl, ?_⟩
          refine WS_cond (t := true) (by simp [hs, hs2, hs3, hb3]) (fun _ => ?_) (fun h => by cases h)
          refine WS_seq (WS_reg [] ?_); simp [hs, hs2, hs3, hb3]
          refine WS_ret ?_; simp [hs, hs2, hs3, hb3]
end Go.Vw
