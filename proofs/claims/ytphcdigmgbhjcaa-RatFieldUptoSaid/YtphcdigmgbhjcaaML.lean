/- The contracts of the laws of layer 3. -/
import Derived.Test.YtphcdigmgbhjcaaMA
import Derived.Test.YtphcdigmgbhjcaaMB
import Derived.Test.YtphcdigmgbhjcaaMC
import Derived.Test.YtphcdigmgbhjcaaMD
import Derived.Test.YtphcdigmgbhjcaaME
import Derived.Test.YtphcdigmgbhjcaaMF
set_option linter.unusedVariables false
set_option linter.unusedSimpArgs false
namespace Go.Vw
open Go.Proofs

attribute [local simp] RunL_cons RunL_nil AOp_none AOp_some acK_v acK_call agK_tt agK_ff agK_tf agK_ft agK_tup agK_i aop aun St.ev St.heap St.put thenQ blockQ upd_apply S0 argSlot lowV V.cells V.isAgg V.fits V.part partOk plains St.ret retSV svOf svsOf retQ retP retAll retOne uL_length uL_get? uL_get St.elems retH ownIdx ownAt
attribute [local simp] RunD_none RunD_some RunD_nil RunE_any acD_v acD_call agD_tt agD_ff agD_tf agD_ft agD_tup entsOf svref SO.opds SO.writes SO.makes callEnt pureSV pureOf RV.isOwn
attribute [local simp] abin_add abin_sub abin_mul abin_quo abin_rem abin_eql abin_neq abin_lss abin_leq abin_gtr abin_geq
attribute [local simp] uL_snoc uL_set uL_take uL_drop uL_append uL_replicate uL_nil
attribute [local simp] acK_callG acD_callG St.giv gsSV gvSV retEnts ownEnts SO.still
attribute [local simp] S0G argSlotG givSV retQG retPG retAllG retOneG HObj.width V.scalar trimQ V.byte
attribute [local simp] zv V.fits fillOk fillV Z_eq rv Q_eq
theorem awake3 : Spec Try.prog f_law03_awake [] (· = [.pure (.b true)]) := by
  have o6 := zof 6 (by omega) (by omega)
  have o4 := zof (-4) (by omega) (by omega)
  have mk := zmake (k := 1) (isZ_Z (z := 6) (zlen_small (by decide))) (isZ_Z (z := -4) (zlen_small (by decide))) (by omega)
  rw [makeR, if_neg (by omega)] at mk
  have tt := qtext (isQ_Q (k := 2) (q := Rat.divInt 6 (-4)) (divInt_len (k := 1) (zlen_small (by decide)) (zlen_small (by decide)))) (by omega)
  have hT : qT (Rat.divInt 6 (-4)) = [45, 51, 47, 50] := by decide +kernel
  rw [hT] at tt
  have pp := qparse [50, 47, 52] (by simp)
  have hP : qP [50, 47, 52] = none := by decide +kernel
  rw [hP, qPR] at pp
  obtain ⟨q, hq⟩ : ∃ q, q = Rat.divInt 6 (-4) := ⟨_, rfl⟩
  rw [← hq] at mk tt
  refine spec_at Try.func105 ok_law03_awake [] rfl (by simp) ?_
  unfold sc_law03_awake
  refine WS_seq (WS_reg [] ?_); simp [tx, abin_seql]
  refine WS_seq (WS_reg [] ?_); simp [tx, abin_seql]
  refine callK o6 ?_; simp [tx, abin_seql]
  refine callK o4 ?_; simp [tx, abin_seql]
  refine callK mk ?_; simp [tx, abin_seql]
  refine WS_seq (WS_reg [] ?_); simp [tx, abin_seql]
  refine callK pp ?_; simp [tx, abin_seql]
  refine WS_seq (WS_reg [] ?_); simp [tx, abin_seql]
  refine callK tt ?_; simp [tx, abin_seql]
  refine WS_ret ?_; simp [tx, abin_seql]

theorem few3 (n : Nat) (hn : n ≤ 2 ^ 40) (L : List (Bool × List Nat × List Nat)) (hL : L.length ≤ 2 ^ 40) : Spec Try.prog f_law03_few [.i .i64 (n : Int), .sl (some 3) (rL L)] (· = [.pure (.b (few3B n L))]) := by
  refine spec_at Try.func110 ok_law03_few [] rfl (by simp) ?_
  unfold sc_law03_few
  obtain ⟨m, hm⟩ : ∃ m, m = L.length := ⟨_, rfl⟩
  have hzl : (rL L).length = m := by simp [rL, hm]
  refine WS_seq (WS_reg [] ?_); simp
  refine WS_seq (WS_seq (WS_reg [] ?_)); simp
  refine WS_block (WS_loop (fun S => ∃ i : Nat, i ≤ m ∧ S.σ 0 = .p (.i .i64 (n : Int)) ∧ S.σ 1 = .p (.sl (some 3) (rL L)) ∧ S.σ 5 = .p (.i .i64 (i : Int)) ∧ few3B n (L.take i) = true) (fun S => match S.σ 5 with | .p (.i _ k) => m - k.toNat | _ => 0) ⟨0, by omega, by simp, by simp, by simp, rfl⟩ ?_)
  rintro S ⟨i, hi, s0, s1, s5, hall⟩
  refine WS_seq (WS_seq (WS_reg [] ?_)); simp [s1, s5, hzl]
  by_cases hlt : i < m
  · have hil : i < L.length := by omega
    have hiz : i < (rL L).length := by omega
    have hlt' : (i : Int) < (m : Int) := by omega
    have hget : (rL L)[i] = .agg [.b L[i].1, .sl none (uL L[i].2.1), .sl none (uL L[i].2.2)] := by simp [rL]
    have htk : (L.take (i + 1)) = L.take i ++ [L[i]] := List.take_succ_eq_append_getElem hil
    obtain ⟨p, hp⟩ : ∃ p, p = L[i] := ⟨_, rfl⟩
    rw [← hp] at hget htk
    have w1 := i64_succ i (by omega)
    refine WS_cond (t := true) (by simp; omega) (fun _ => ?_) (fun h => by cases h)
    refine WS_skip ?_; simp
    by_cases hg : (n : Int) < (p.2.1.length : Int)
    · have hno : few3B n L = false := by
        rw [few3B, List.all_eq_false]
        exact ⟨p, by rw [hp]; exact List.getElem_mem hil, by simp; omega⟩
      rw [hno]
      refine WS_seq (WS_block (WS_seq (WS_reg [] ?_))); simp [s0, s1, s5, hiz, hzl, hlt, hlt', hget, hg]
      refine WS_cond (t := true) (by simp) (fun _ => ?_) (fun h => by cases h)
      refine WS_seq (WS_reg [] ?_); simp
      refine WS_ret ?_; simp
    · by_cases hg2 : (n : Int) < (p.2.2.length : Int)
      · have hno : few3B n L = false := by
          rw [few3B, List.all_eq_false]
          exact ⟨p, by rw [hp]; exact List.getElem_mem hil, by simp; omega⟩
        rw [hno]
        refine WS_seq (WS_block (WS_seq (WS_reg [] ?_))); simp [s0, s1, s5, hiz, hzl, hlt, hlt', hget, hg, hg2]
        refine WS_cond (t := true) (by simp) (fun _ => ?_) (fun h => by cases h)
        refine WS_seq (WS_reg [] ?_); simp
        refine WS_ret ?_; simp
      · refine WS_seq (WS_block (WS_seq (WS_reg [] ?_))); simp [s0, s1, s5, hiz, hzl, hlt, hlt', hget, hg, hg2]
        refine WS_cond (t := false) (by simp) (fun h => by cases h) (fun _ => ?_)
        refine WS_skip ?_; simp
        refine WS_reg [] ?_; simp [s0, s1, s5, w1]
        refine ⟨⟨i + 1, by omega, rfl, ?_⟩, by omega⟩
        rw [htk, few3B, List.all_append]
        rw [few3B] at hall
        rw [hall]
        simp at hg hg2 ⊢
        omega
  · have him : i = m := by omega
    refine WS_cond (t := false) (by simp; omega) (fun h => by cases h) (fun _ => ?_)
    refine WS_exit ?_; simp
    refine WS_seq (WS_reg [] ?_); simp
    refine WS_ret ?_
    rw [him, List.take_of_length_le (by omega)] at hall
    simp only [hall]
    simp

theorem same3 (n : Bool) (l d : List Nat) (hl : l.length ≤ 2 ^ 40) (hd : d.length ≤ 2 ^ 40) : Spec Try.prog f_law03_same [rv n l d, rv n l d] (· = [.pure (.b true)]) := by
  have sm := qsame n l d hl hd
  refine spec_at Try.func107 ok_law03_same [] rfl (by simp) ?_
  unfold sc_law03_same
  refine WS_seq (WS_reg [] ?_); simp
  refine WS_seq (WS_reg [] ?_); simp
  refine callK sm ?_; simp
  refine WS_ret ?_; simp
theorem same3_Q {k : Nat} {q : Rat} (h : QL k q) (hk : k ≤ 2 ^ 40) : Spec Try.prog f_law03_same [Q q, Q q] (· = [.pure (.b true)]) := same3 _ _ _ (by have := h.num; rw [zlen] at this; omega) (by rw [qd_len]; have := h.den; omega)

set_option maxHeartbeats 1000000 in
theorem law_RatMakes (n1 n2 : Bool) (l1 l2 : List Nat) (h1 : ZW (2 ^ 24) l1) (h2 : ZW (2 ^ 24) l2) (n : Int) (hn1 : -9223372036854775808 ≤ n) (hn2 : n ≤ 9223372036854775807) :
    Spec Try.prog f_law03_RatMakes [zv n1 l1, zv n2 l2, .i .i64 n] (· = [.pure (.b true)]) := by
  have ia := isZ_zv (n := n1) h1
  have ib := isZ_zv (n := n2) h2
  have m1 := zmake ia ib (by omega)
  have m2 := rmake ia ib (by omega)
  have hx : ∃ a b c e, makeR (zi n1 l1) (zi n2 l2) = [.pure (rv a b c), .pure (.i .i64 e)] ∧ b.length ≤ 2 ^ 30 ∧ c.length ≤ 2 ^ 30 := by
    unfold makeR
    split
    · exact ⟨_, _, _, _, rfl, by simp, by simp⟩
    · have ql := divInt_len ia.zlen ib.zlen
      exact ⟨_, _, _, _, rfl, by have := ql.num; rw [zlen] at this; omega, by rw [qd_len]; have := ql.den; omega⟩
  obtain ⟨a, b, c, e, hR, hb, hc⟩ := hx
  rw [hR] at m1 m2
  have s1 := same3 a b c (by omega) (by omega)
  have o1 := qof n hn1 hn2
  have o2 := rof3 n hn1 hn2
  have s2 := same3 (zn n) (zl n) [1] (by have := zlen_small (x := n) (by omega); rw [zlen] at this; omega) (by simp)
  rw [Q_int] at o1 o2
  have aw := awake3
  refine spec_at Try.func28 ok_law03_RatMakes [] rfl (by simp) ?_
  unfold sc_law03_RatMakes
  by_cases c1 : (8 : Int) < (l1.length : Int)
  · refine WS_seq (WS_reg [] ?_); simp [c1]
    refine WS_seq (WS_reg [] ?_); simp [c1]
    refine callK aw ?_; simp [c1]
    refine WS_seq (WS_seq (WS_reg [] ?_)); simp [c1]
    refine WS_cond (t := true) (by simp [c1]) (fun _ => ?_) (fun h => by cases h)
    refine WS_seq (WS_reg [] ?_); simp [c1]
    refine WS_ret ?_; simp [c1]
  · by_cases c2 : (8 : Int) < (l2.length : Int)
    · refine WS_seq (WS_reg [] ?_); simp [c1, c2]
      refine WS_seq (WS_reg [] ?_); simp [c1, c2]
      refine callK aw ?_; simp [c1, c2]
      refine WS_seq (WS_seq (WS_reg [] ?_)); simp [c1, c2]
      refine WS_cond (t := true) (by simp [c1, c2]) (fun _ => ?_) (fun h => by cases h)
      refine WS_seq (WS_reg [] ?_); simp [c1, c2]
      refine WS_ret ?_; simp [c1, c2]
    · refine WS_seq (WS_reg [] ?_); simp [c1, c2]
      refine WS_seq (WS_reg [] ?_); simp [c1, c2]
      refine callK aw ?_; simp [c1, c2]
      refine WS_seq (WS_seq (WS_reg [] ?_)); simp [c1, c2]
      refine WS_cond (t := false) (by simp [c1, c2]) (fun h => by cases h) (fun _ => ?_)
      refine WS_skip ?_; simp [c1, c2]
      refine WS_seq (WS_reg [] ?_); simp [c1, c2]
      refine callK m1 ?_; simp [c1, c2]
      refine WS_seq (WS_reg [] ?_); simp [c1, c2]
      refine callK m2 ?_; simp [c1, c2]
      refine WS_seq (WS_reg [] ?_); simp [c1, c2]
      refine callK s1 ?_; simp [c1, c2]
      refine callK o1 ?_; simp [c1, c2]
      refine callK o2 ?_; simp [c1, c2]
      refine callK s2 ?_; simp [c1, c2]
      refine WS_ret ?_; simp [c1, c2]

end Go.Vw
namespace Go.Vw
open Go.Proofs

attribute [local simp] RunL_cons RunL_nil AOp_none AOp_some acK_v acK_call agK_tt agK_ff agK_tf agK_ft agK_tup agK_i aop aun St.ev St.heap St.put thenQ blockQ upd_apply S0 argSlot lowV V.cells V.isAgg V.fits V.part partOk plains St.ret retSV svOf svsOf retQ retP retAll retOne uL_length uL_get? uL_get St.elems retH ownIdx ownAt
attribute [local simp] RunD_none RunD_some RunD_nil RunE_any acD_v acD_call agD_tt agD_ff agD_tf agD_ft agD_tup entsOf svref SO.opds SO.writes SO.makes callEnt pureSV pureOf RV.isOwn
attribute [local simp] abin_add abin_sub abin_mul abin_quo abin_rem abin_eql abin_neq abin_lss abin_leq abin_gtr abin_geq
attribute [local simp] uL_snoc uL_set uL_take uL_drop uL_append uL_replicate uL_nil
attribute [local simp] acK_callG acD_callG St.giv gsSV gvSV retEnts ownEnts SO.still
attribute [local simp] S0G argSlotG givSV retQG retPG retAllG retOneG HObj.width V.scalar trimQ V.byte
attribute [local simp] zv V.fits fillOk fillV Z_eq rv Q_eq
theorem few3_one (n : Nat) (hn : n ≤ 2 ^ 40) (n1 : Bool) (l1 d1 : List Nat) : Spec Try.prog f_law03_few [.i .i64 (n : Int), .sl (some 3) [rv n1 l1 d1]] (· = [.pure (.b (few3B n [(n1, l1, d1)]))]) := few3 n hn [(n1, l1, d1)] (by simp)
theorem few3_three (n : Nat) (hn : n ≤ 2 ^ 40) (n1 n2 n3 : Bool) (l1 l2 l3 d1 d2 d3 : List Nat) : Spec Try.prog f_law03_few [.i .i64 (n : Int), .sl (some 3) [rv n1 l1 d1, rv n2 l2 d2, rv n3 l3 d3]] (· = [.pure (.b (few3B n [(n1, l1, d1), (n2, l2, d2), (n3, l3, d3)]))]) := few3 n hn [(n1, l1, d1), (n2, l2, d2), (n3, l3, d3)] (by simp)

set_option maxHeartbeats 1000000 in
theorem law_RatBack (n1 : Bool) (l1 d1 : List Nat) (h1 : ZW (2 ^ 24) l1) (g1 : ZW (2 ^ 24) d1) (s : List UInt8) (hs : s.length ≤ 2 ^ 40) :
    Spec Try.prog f_law03_RatBack [rv n1 l1 d1, tx s] (· = [.pure (.b true)]) := by
  have fw : Spec Try.prog f_law03_few [.i .i64 10, .sl (some 3) [rv n1 l1 d1]] (· = [.pure (.b (few3B 10 [(n1, l1, d1)]))]) := few3_one 10 (by omega) n1 l1 d1
  have aw := awake3
  refine spec_at Try.func29 ok_law03_RatBack [] rfl (by simp) ?_
  unfold sc_law03_RatBack
  cases hf : few3B 10 [(n1, l1, d1)] with
  | false =>
    rw [hf] at fw
    refine WS_seq (WS_reg [] ?_); simp [tx]
    refine WS_seq (WS_reg [] ?_); simp [tx]
    refine callK aw ?_; simp [tx]
    refine WS_seq (WS_seq (WS_reg [] ?_)); simp [tx]
    refine callK fw ?_; simp [tx]
    refine WS_cond (t := true) (by simp [tx]) (fun _ => ?_) (fun h => by cases h)
    refine WS_seq (WS_reg [] ?_); simp [tx]
    refine WS_ret ?_; simp [tx]
  | true =>
    rw [hf] at fw
    simp only [few3B, List.all_cons, List.all_nil, Bool.and_true, Bool.and_eq_true, decide_eq_true_eq] at hf
    by_cases c3 : (300 : Int) < (s.length : Int)
    · refine WS_seq (WS_reg [] ?_); simp [tx, bmk_size, c3]
      refine WS_seq (WS_reg [] ?_); simp [tx, bmk_size, c3]
      refine callK aw ?_; simp [tx, bmk_size, c3]
      refine WS_seq (WS_seq (WS_reg [] ?_)); simp [tx, bmk_size, c3]
      refine callK fw ?_; simp [tx, bmk_size, c3]
      refine WS_cond (t := true) (by simp [tx, bmk_size, c3]) (fun _ => ?_) (fun h => by cases h)
      refine WS_seq (WS_reg [] ?_); simp [tx, bmk_size, c3]
      refine WS_ret ?_; simp [tx, bmk_size, c3]
    · have ia := isQ_rv (n := n1) (l := l1) (d := d1) (k := 10) ⟨h1.dl, hf.1⟩ ⟨g1.dl, hf.2⟩
      obtain ⟨q, hq⟩ : ∃ q, q = rq n1 l1 d1 := ⟨_, rfl⟩
      rw [← hq] at ia
      have ql := ia.ql
      have p1 := qparse s hs
      have t1 := qtext ia (by omega)
      have nm := qnorm ia (by omega)
      have w1 := Nm.decT_length (lt_zlen' ql.num)
      have w2 := Nm.decT_length (lt_zlen' ql.den)
      rw [Int.natAbs_natCast] at w2
      have tl : (qT q).length ≤ 2 ^ 40 := by
        have := zT_len ql.num
        unfold qT
        split
        · omega
        · simp; omega
      have p2 := qparse (qT q) tl
      rw [qP_qT (by omega) (by omega), qPR] at p2
      have sm := same3_Q ql (by omega)
      have hx : ∃ a b c e, qPR (qP s) = [.pure (rv a b c), .pure (.i .i64 e)] ∧ (e = 2 ∨ e = 0 ∧ Spec Try.prog f_rat_Text [rv a b c] (· = [.pure (tx s)])) := by
        cases hp : qP s with
        | none => exact ⟨_, _, _, _, rfl, .inl rfl⟩
        | some r =>
          refine ⟨_, _, _, _, rfl, .inr ⟨rfl, ?_⟩⟩
          have := qtext (isQ_Q (qP_len hp)) (by omega)
          rwa [qP_T hp] at this
      obtain ⟨a, b, c, e, hR, he⟩ := hx
      rw [hR] at p1
      obtain ⟨T, hT⟩ : ∃ T, T = qT q := ⟨_, rfl⟩
      rw [← hT] at t1 p2
      rcases he with rfl | ⟨rfl, t2⟩
      · refine WS_seq (WS_reg [] ?_); simp [tx, bmk_size, c3]
        refine WS_seq (WS_reg [] ?_); simp [tx, bmk_size, c3]
        refine callK aw ?_; simp [tx, bmk_size, c3]
        refine WS_seq (WS_seq (WS_reg [] ?_)); simp [tx, bmk_size, c3]
        refine callK fw ?_; simp [tx, bmk_size, c3]
        refine WS_cond (t := false) (by simp [tx, bmk_size, c3]) (fun h => by cases h) (fun _ => ?_)
        refine WS_skip ?_; simp [tx, bmk_size, c3]
        refine WS_seq (WS_reg [] ?_); simp [tx, bmk_size, c3]
        refine callK p1 ?_; simp [tx, bmk_size, c3]
        refine WS_seq (WS_reg [] ?_); simp [tx, bmk_size, c3]
        refine callK t1 ?_; simp [tx, bmk_size, c3]
        refine callK p2 ?_; simp [tx, bmk_size, c3]
        refine WS_seq (WS_regD [] ?_); simp [tx, bmk_size, c3]
        refine callD nm rfl ?_; simp [tx, bmk_size, c3]
        refine callD sm rfl ?_; simp [tx, bmk_size, c3]
        refine ⟨rfl, ?_⟩
        refine WS_ret ?_; simp [tx, bmk_size, c3]
      · refine WS_seq (WS_reg [] ?_); simp [tx, bmk_size, c3, abin_seql]
        refine WS_seq (WS_reg [] ?_); simp [tx, bmk_size, c3, abin_seql]
        refine callK aw ?_; simp [tx, bmk_size, c3, abin_seql]
        refine WS_seq (WS_seq (WS_reg [] ?_)); simp [tx, bmk_size, c3, abin_seql]
        refine callK fw ?_; simp [tx, bmk_size, c3, abin_seql]
        refine WS_cond (t := false) (by simp [tx, bmk_size, c3, abin_seql]) (fun h => by cases h) (fun _ => ?_)
        refine WS_skip ?_; simp [tx, bmk_size, c3, abin_seql]
        refine WS_seq (WS_reg [] ?_); simp [tx, bmk_size, c3, abin_seql]
        refine callK p1 ?_; simp [tx, bmk_size, c3, abin_seql]
        refine WS_seq (WS_reg [] ?_); simp [tx, bmk_size, c3, abin_seql]
        refine callK t1 ?_; simp [tx, bmk_size, c3, abin_seql]
        refine callK p2 ?_; simp [tx, bmk_size, c3, abin_seql]
        refine WS_seq (WS_regD [] ?_); simp [tx, bmk_size, c3, abin_seql]
        refine callD t2 rfl ?_; simp [tx, bmk_size, c3, abin_seql]
        refine callD nm rfl ?_; simp [tx, bmk_size, c3, abin_seql]
        refine callD sm rfl ?_; simp [tx, bmk_size, c3, abin_seql]
        refine ⟨rfl, ?_⟩
        refine WS_ret ?_; simp [tx, bmk_size, c3, abin_seql]

set_option maxHeartbeats 1000000 in
theorem law_RatOrder (n1 n2 n3 : Bool) (l1 l2 l3 d1 d2 d3 : List Nat) (h1 : ZW (2 ^ 24) l1) (g1 : ZW (2 ^ 24) d1) (h2 : ZW (2 ^ 24) l2) (g2 : ZW (2 ^ 24) d2) (h3 : ZW (2 ^ 24) l3) (g3 : ZW (2 ^ 24) d3) :
    Spec Try.prog f_law03_RatOrder [rv n1 l1 d1, rv n2 l2 d2, rv n3 l3 d3] (· = [.pure (.b true)]) := by
  have fw : Spec Try.prog f_law03_few [.i .i64 6, .sl (some 3) [rv n1 l1 d1, rv n2 l2 d2, rv n3 l3 d3]] (· = [.pure (.b (few3B 6 [(n1, l1, d1), (n2, l2, d2), (n3, l3, d3)]))]) := few3_three 6 (by omega) n1 n2 n3 l1 l2 l3 d1 d2 d3
  have aw := awake3
  have ia := isQ_rv (n := n1) h1 g1
  have ib := isQ_rv (n := n2) h2 g2
  have ic := isQ_rv (n := n3) h3 g3
  obtain ⟨a, ha⟩ : ∃ q, q = rq n1 l1 d1 := ⟨_, rfl⟩
  obtain ⟨b, hb⟩ : ∃ q, q = rq n2 l2 d2 := ⟨_, rfl⟩
  obtain ⟨c, hc⟩ : ∃ q, q = rq n3 l3 d3 := ⟨_, rfl⟩
  rw [← ha] at ia
  rw [← hb] at ib
  rw [← hc] at ic
  have c1 := qcmp ia ib (by omega)
  have c2 := qcmp ib ic (by omega)
  have c3 := qcmp ib ia (by omega)
  have c4 := qcmp ia ic (by omega)
  have sb := qsub ia ib (by omega)
  have sg := qsign (isQ_Q (ql_sub ia.ql ib.ql)) (by omega)
  have s1 := qadd ia ic (by omega)
  have s2 := qadd ib ic (by omega)
  have c5 := qcmp ((isQ_Q (ql_add ia.ql ic.ql)).mono (show _ ≤ 2 ^ 26 by omega)) ((isQ_Q (ql_add ib.ql ic.ql)).mono (show _ ≤ 2 ^ 26 by omega)) (by omega)
  rw [q_cancel] at c5
  rw [q_swap a b, Rat.neg_num, Int.sign_neg] at c3
  have tr := q_trans a b c
  obtain ⟨s, hs⟩ : ∃ s, s = (a - b).num.sign := ⟨_, rfl⟩
  obtain ⟨t, ht⟩ : ∃ s, s = (b - c).num.sign := ⟨_, rfl⟩
  obtain ⟨u, hu⟩ : ∃ s, s = (a - c).num.sign := ⟨_, rfl⟩
  have si := sign_in (a - b).num
  rw [← hs] at c1 c3 c5 sg tr si
  rw [← ht] at c2 tr
  rw [← hu] at c4 tr
  have ws : IntKind.i64.wrap s = s := Go.IntWalk.i64_in _ (by omega)
  refine spec_at Try.func31 ok_law03_RatOrder [] rfl (by simp) ?_
  unfold sc_law03_RatOrder
  cases hf : few3B 6 [(n1, l1, d1), (n2, l2, d2), (n3, l3, d3)] with
  | false =>
    rw [hf] at fw
    refine WS_seq (WS_reg [] ?_); simp
    refine WS_seq (WS_reg [] ?_); simp
    refine callK aw ?_; simp
    refine WS_seq (WS_seq (WS_reg [] ?_)); simp
    refine callK fw ?_; simp
    refine WS_cond (t := true) (by simp) (fun _ => ?_) (fun h => by cases h)
    refine WS_seq (WS_reg [] ?_); simp
    refine WS_ret ?_; simp
  | true =>
    rw [hf] at fw
    by_cases e1 : 0 < s
    · refine WS_seq (WS_reg [] ?_); simp [ws, e1]
      refine WS_seq (WS_reg [] ?_); simp [ws, e1]
      refine callK aw ?_; simp [ws, e1]
      refine WS_seq (WS_seq (WS_reg [] ?_)); simp [ws, e1]
      refine callK fw ?_; simp [ws, e1]
      refine WS_cond (t := false) (by simp [ws, e1]) (fun h => by cases h) (fun _ => ?_)
      refine WS_skip ?_; simp [ws, e1]
      refine WS_seq (WS_reg [] ?_); simp [ws, e1]
      refine callK c1 ?_; simp [ws, e1]
      refine WS_seq (WS_reg [] ?_); simp [ws, e1]
      refine callK c2 ?_; simp [ws, e1]
      refine WS_seq (WS_regD [] ?_); simp [ws, e1]
      refine callD c3 rfl ?_; simp [ws, e1]
      refine callD sb rfl ?_; simp [ws, e1]
      refine callD sg rfl ?_; simp [ws, e1]
      refine callD s1 rfl ?_; simp [ws, e1]
      refine callD s2 rfl ?_; simp [ws, e1]
      refine callD c5 rfl ?_; simp [ws, e1]
      refine ⟨rfl, ?_⟩
      refine WS_ret ?_; simp [ws, e1]
    · by_cases e2 : 0 < t
      · refine WS_seq (WS_reg [] ?_); simp [ws, e1, e2]
        refine WS_seq (WS_reg [] ?_); simp [ws, e1, e2]
        refine callK aw ?_; simp [ws, e1, e2]
        refine WS_seq (WS_seq (WS_reg [] ?_)); simp [ws, e1, e2]
        refine callK fw ?_; simp [ws, e1, e2]
        refine WS_cond (t := false) (by simp [ws, e1, e2]) (fun h => by cases h) (fun _ => ?_)
        refine WS_skip ?_; simp [ws, e1, e2]
        refine WS_seq (WS_reg [] ?_); simp [ws, e1, e2]
        refine callK c1 ?_; simp [ws, e1, e2]
        refine WS_seq (WS_reg [] ?_); simp [ws, e1, e2]
        refine callK c2 ?_; simp [ws, e1, e2]
        refine WS_seq (WS_regD [] ?_); simp [ws, e1, e2]
        refine callD c3 rfl ?_; simp [ws, e1, e2]
        refine callD sb rfl ?_; simp [ws, e1, e2]
        refine callD sg rfl ?_; simp [ws, e1, e2]
        refine callD s1 rfl ?_; simp [ws, e1, e2]
        refine callD s2 rfl ?_; simp [ws, e1, e2]
        refine callD c5 rfl ?_; simp [ws, e1, e2]
        refine ⟨rfl, ?_⟩
        refine WS_ret ?_; simp [ws, e1, e2]
      · have e3 := tr (by omega) (by omega)
        refine WS_seq (WS_reg [] ?_); simp [ws, e1, e2, e3]
        refine WS_seq (WS_reg [] ?_); simp [ws, e1, e2, e3]
        refine callK aw ?_; simp [ws, e1, e2, e3]
        refine WS_seq (WS_seq (WS_reg [] ?_)); simp [ws, e1, e2, e3]
        refine callK fw ?_; simp [ws, e1, e2, e3]
        refine WS_cond (t := false) (by simp [ws, e1, e2, e3]) (fun h => by cases h) (fun _ => ?_)
        refine WS_skip ?_; simp [ws, e1, e2, e3]
        refine WS_seq (WS_reg [] ?_); simp [ws, e1, e2, e3]
        refine callK c1 ?_; simp [ws, e1, e2, e3]
        refine WS_seq (WS_reg [] ?_); simp [ws, e1, e2, e3]
        refine callK c2 ?_; simp [ws, e1, e2, e3]
        refine WS_seq (WS_regD [] ?_); simp [ws, e1, e2, e3]
        refine callD c3 rfl ?_; simp [ws, e1, e2, e3]
        refine callD sb rfl ?_; simp [ws, e1, e2, e3]
        refine callD sg rfl ?_; simp [ws, e1, e2, e3]
        refine callD s1 rfl ?_; simp [ws, e1, e2, e3]
        refine callD s2 rfl ?_; simp [ws, e1, e2, e3]
        refine callD c5 rfl ?_; simp [ws, e1, e2, e3]
        refine callD c4 rfl ?_; simp [ws, e1, e2, e3]
        refine ⟨rfl, ?_⟩
        refine WS_ret ?_; simp [ws, e1, e2, e3]

end Go.Vw
namespace Go.Vw
open Go.Proofs

attribute [local simp] RunL_cons RunL_nil AOp_none AOp_some acK_v acK_call agK_tt agK_ff agK_tf agK_ft agK_tup agK_i aop aun St.ev St.heap St.put thenQ blockQ upd_apply S0 argSlot lowV V.cells V.isAgg V.fits V.part partOk plains St.ret retSV svOf svsOf retQ retP retAll retOne uL_length uL_get? uL_get St.elems retH ownIdx ownAt
attribute [local simp] RunD_none RunD_some RunD_nil RunE_any acD_v acD_call agD_tt agD_ff agD_tf agD_ft agD_tup entsOf svref SO.opds SO.writes SO.makes callEnt pureSV pureOf RV.isOwn
attribute [local simp] abin_add abin_sub abin_mul abin_quo abin_rem abin_eql abin_neq abin_lss abin_leq abin_gtr abin_geq
attribute [local simp] uL_snoc uL_set uL_take uL_drop uL_append uL_replicate uL_nil
attribute [local simp] acK_callG acD_callG St.giv gsSV gvSV retEnts ownEnts SO.still
attribute [local simp] S0G argSlotG givSV retQG retPG retAllG retOneG HObj.width V.scalar trimQ V.byte
attribute [local simp] zv V.fits fillOk fillV Z_eq rv Q_eq
set_option maxHeartbeats 2000000 in
theorem law_RatPlain (n1 n2 n3 : Bool) (l1 l2 l3 : List Nat) (h1 : ZW (2 ^ 24) l1) (h2 : ZW (2 ^ 24) l2) (h3 : ZW (2 ^ 24) l3) :
    Spec Try.prog f_law03_RatPlain [zv n1 l1, zv n2 l2, zv n3 l3] (· = [.pure (.b true)]) := by
  have aw := awake3
  have ia := isZ_zv (n := n1) h1
  have ib := isZ_zv (n := n2) h2
  have ic := isZ_zv (n := n3) h3
  have q1 := ia.zlen
  have q2 := ib.zlen
  have q3 := ic.zlen
  have hq : rq n2 l2 [1] = mkRat (zi n2 l2) 1 := by rw [rq]; congr 1
  have iq := isQ_rv (n := n2) (l := l2) (d := [1]) h2 ⟨by intro y hy; simp at hy; omega, by simp⟩
  rw [hq] at iq
  have e1 : uL [1] = [V.i .u64 1] := rfl
  obtain ⟨a, ha⟩ : ∃ x, x = zi n1 l1 := ⟨_, rfl⟩
  obtain ⟨b, hb⟩ : ∃ x, x = zi n2 l2 := ⟨_, rfl⟩
  obtain ⟨k, hk⟩ : ∃ x, x = zi n3 l3 := ⟨_, rfl⟩
  rw [← ha] at ia q1
  rw [← hb] at ib q2 iq
  rw [← hk] at ic q3
  have m1 := zmake ia ib (by omega)
  have ak := zmul ia ic (by omega)
  have bk := zmul ib ic (by omega)
  have m2 := zmake (isZ_of (x := a * k) (k := 2 ^ 26) (by have := zlen_mul a k; omega)) (isZ_of (x := b * k) (k := 2 ^ 26) (by have := zlen_mul b k; omega)) (by omega)
  have sb := zsign ib (by omega)
  have sk := zsign ic (by omega)
  refine spec_at Try.func30 ok_law03_RatPlain [] rfl (by simp) ?_
  unfold sc_law03_RatPlain
  by_cases c1 : (6 : Int) < (l1.length : Int)
  · refine WS_seq (WS_reg [] ?_); simp [c1]
    refine WS_seq (WS_reg [] ?_); simp [c1]
    refine callK aw ?_; simp [c1]
    refine WS_seq (WS_seq (WS_reg [] ?_)); simp [c1]
    refine WS_cond (t := true) (by simp [c1]) (fun _ => ?_) (fun h => by cases h)
    refine WS_seq (WS_reg [] ?_); simp [c1]
    refine WS_ret ?_; simp [c1]
  · by_cases c2 : (6 : Int) < (l2.length : Int)
    · refine WS_seq (WS_reg [] ?_); simp [c1, c2]
      refine WS_seq (WS_reg [] ?_); simp [c1, c2]
      refine callK aw ?_; simp [c1, c2]
      refine WS_seq (WS_seq (WS_reg [] ?_)); simp [c1, c2]
      refine WS_cond (t := true) (by simp [c1, c2]) (fun _ => ?_) (fun h => by cases h)
      refine WS_seq (WS_reg [] ?_); simp [c1, c2]
      refine WS_ret ?_; simp [c1, c2]
    · by_cases c3 : (6 : Int) < (l3.length : Int)
      · refine WS_seq (WS_reg [] ?_); simp [c1, c2, c3]
        refine WS_seq (WS_reg [] ?_); simp [c1, c2, c3]
        refine callK aw ?_; simp [c1, c2, c3]
        refine WS_seq (WS_seq (WS_reg [] ?_)); simp [c1, c2, c3]
        refine WS_cond (t := true) (by simp [c1, c2, c3]) (fun _ => ?_) (fun h => by cases h)
        refine WS_seq (WS_reg [] ?_); simp [c1, c2, c3]
        refine WS_ret ?_; simp [c1, c2, c3]
      · by_cases b0 : b = 0
        · subst b0
          rw [Int.zero_mul] at bk m2
          rw [makeR_no] at m1 m2
          rw [Int.sign_zero] at sb
          refine WS_seq (WS_reg [] ?_); simp [c1, c2, c3]
          refine WS_seq (WS_reg [] ?_); simp [c1, c2, c3]
          refine callK aw ?_; simp [c1, c2, c3]
          refine WS_seq (WS_seq (WS_reg [] ?_)); simp [c1, c2, c3]
          refine WS_cond (t := false) (by simp [c1, c2, c3]) (fun h => by cases h) (fun _ => ?_)
          refine WS_skip ?_; simp [c1, c2, c3]
          refine WS_seq (WS_reg [] ?_); simp [c1, c2, c3]
          refine callK m1 ?_; simp [c1, c2, c3]
          refine WS_seq (WS_regD [] ?_); simp [c1, c2, c3]
          refine callD ak rfl ?_; simp [c1, c2, c3]
          refine callD bk rfl ?_; simp [c1, c2, c3]
          refine callD m2 rfl ?_; simp [c1, c2, c3]
          refine ⟨rfl, ?_⟩
          refine WS_seq (WS_seq (WS_reg [] ?_)); simp [c1, c2, c3]
          refine WS_cond (t := true) (by simp [c1, c2, c3]) (fun _ => ?_) (fun h => by cases h)
          refine WS_seq (WS_reg [] ?_); simp [c1, c2, c3]
          refine callK sb ?_; simp [c1, c2, c3]
          refine callK sb ?_; simp [c1, c2, c3]
          refine WS_ret ?_; simp [c1, c2, c3]
        · have hs := sign_ne b0
          rw [makeR_ok b0] at m1
          by_cases k0 : k = 0
          · subst k0
            rw [Int.mul_zero] at ak bk
            rw [Int.mul_zero, Int.mul_zero] at m2
            rw [makeR_no] at m2
            rw [Int.sign_zero] at sk
            have e2 : (b.sign != 0) = true := by simpa using hs
            refine WS_seq (WS_reg [] ?_); simp [c1, c2, c3, hs, e2]
            refine WS_seq (WS_reg [] ?_); simp [c1, c2, c3, hs, e2]
            refine callK aw ?_; simp [c1, c2, c3, hs, e2]
            refine WS_seq (WS_seq (WS_reg [] ?_)); simp [c1, c2, c3, hs, e2]
            refine WS_cond (t := false) (by simp [c1, c2, c3, hs, e2]) (fun h => by cases h) (fun _ => ?_)
            refine WS_skip ?_; simp [c1, c2, c3, hs, e2]
            refine WS_seq (WS_reg [] ?_); simp [c1, c2, c3, hs, e2]
            refine callK m1 ?_; simp [c1, c2, c3, hs, e2]
            refine WS_seq (WS_regD [] ?_); simp [c1, c2, c3, hs, e2]
            refine callD ak rfl ?_; simp [c1, c2, c3, hs, e2]
            refine callD bk rfl ?_; simp [c1, c2, c3, hs, e2]
            refine callD m2 rfl ?_; simp [c1, c2, c3, hs, e2]
            refine ⟨rfl, ?_⟩
            refine WS_seq (WS_seq (WS_reg [] ?_)); simp [c1, c2, c3, hs, e2]
            refine WS_cond (t := true) (by simp [c1, c2, c3, hs, e2]) (fun _ => ?_) (fun h => by cases h)
            refine WS_seq (WS_reg [] ?_); simp [c1, c2, c3, hs, e2]
            refine callK sb ?_; simp [c1, c2, c3, hs, e2]
            refine callK sb ?_; simp [c1, c2, c3, hs, e2]
            refine callK sk ?_; simp [c1, c2, c3, hs, e2]
            refine WS_ret ?_; simp [c1, c2, c3, hs, e2]
          · rw [makeR_ok (by rw [Ne, Int.mul_eq_zero]; omega), q_scale a b k b0 k0] at m2
            have ql := divInt_len q1 q2
            have qm := qmul ((isQ_Q ql).mono (show _ ≤ 2 ^ 26 by omega)) (iq.mono (show _ ≤ 2 ^ 26 by omega)) (by omega)
            rw [q_times a b b0] at qm
            have la : QL (2 ^ 24 + 1) (a : Rat) := ⟨by rw [Rat.num_intCast]; omega, by rw [Rat.den_intCast]; have := zlen_one; simp; omega⟩
            have qw := qwhole (isQ_Q la) (by omega)
            rw [wholeR, if_pos (Rat.den_intCast a), Rat.num_intCast] at qw
            have sm := same3_Q ql (by omega)
            have nm := znorm ia (by omega)
            have s2 := zsame a (by omega)
            have dz : IsZ (2 ^ 24 + 1) (zv false (qd (Rat.divInt a b).den)) ((Rat.divInt a b).den : Int) := ⟨false, _, rfl, ⟨qd_dl _, by rw [qd_len]; exact ql.den⟩, by rw [zi, qd_val]; rfl⟩
            have gd := zgcd (isZ_of ql.num) dz (by omega)
            rw [q_coprime] at gd
            have o1 := zof 1 (by omega) (by omega)
            have cm := zcmp (isZ_of (x := 1) (k := 1) zlen_one) (isZ_of (x := 1) (k := 1) zlen_one) (by omega)
            rw [Int.sub_self, Int.sign_zero] at cm
            have dl : (0 : Int) < ((qd (Rat.divInt a b).den).length : Int) := by
              have := Nm.dig_length_pos (B := 18446744073709551616) (by omega) (Rat.divInt a b).den_nz
              rw [qd]; omega
            obtain ⟨r, hr⟩ : ∃ r, r = Rat.divInt a b := ⟨_, rfl⟩
            rw [← hr] at m1 m2 qm sm dz gd dl
            obtain ⟨A, hA⟩ : ∃ r, r = (a : Rat) := ⟨_, rfl⟩
            rw [← hA] at qm qw
            have g1 : ((1 : Nat) : Int) = 1 := rfl
            rw [g1] at gd
            have dlN : 0 < (qd r.den).length := by omega
            refine WS_seq (WS_reg [] ?_); simp [c1, c2, c3, dlN, e1]
            refine WS_seq (WS_reg [] ?_); simp [c1, c2, c3, dlN, e1]
            refine callK aw ?_; simp [c1, c2, c3, dlN, e1]
            refine WS_seq (WS_seq (WS_reg [] ?_)); simp [c1, c2, c3, dlN, e1]
            refine WS_cond (t := false) (by simp [c1, c2, c3, dlN, e1]) (fun h => by cases h) (fun _ => ?_)
            refine WS_skip ?_; simp [c1, c2, c3, dlN, e1]
            refine WS_seq (WS_reg [] ?_); simp [c1, c2, c3, dlN, e1]
            refine callK m1 ?_; simp [c1, c2, c3, dlN, e1]
            refine WS_seq (WS_regD [] ?_); simp [c1, c2, c3, dlN, e1]
            refine callD ak rfl ?_; simp [c1, c2, c3, dlN, e1]
            refine callD bk rfl ?_; simp [c1, c2, c3, dlN, e1]
            refine callD m2 rfl ?_; simp [c1, c2, c3, dlN, e1]
            refine ⟨rfl, ?_⟩
            refine WS_seq (WS_seq (WS_reg [] ?_)); simp [c1, c2, c3, dlN, e1]
            refine WS_cond (t := false) (by simp [c1, c2, c3, dlN, e1]) (fun h => by cases h) (fun _ => ?_)
            refine WS_skip ?_; simp [c1, c2, c3, dlN, e1]
            refine WS_seq (WS_reg [] ?_); simp [c1, c2, c3, dlN, e1]
            refine callK qm ?_; simp [c1, c2, c3, dlN, e1]
            refine WS_seq (WS_reg [] ?_); simp [c1, c2, c3, dlN, e1]
            refine callK qw ?_; simp [c1, c2, c3, dlN, e1]
            refine WS_seq (WS_regD [] ?_); simp [c1, c2, c3, dlN, e1]
            refine callD sm rfl ?_; simp [c1, c2, c3, dlN, e1]
            refine callD nm rfl ?_; simp [c1, c2, c3, dlN, e1]
            refine callD s2 rfl ?_; simp [c1, c2, c3, dlN, e1]
            refine callD gd rfl ?_; simp [c1, c2, c3, dlN, e1]
            refine callD o1 rfl ?_; simp [c1, c2, c3, dlN, e1]
            refine callD cm rfl ?_; simp [c1, c2, c3, dlN, e1]
            refine ⟨rfl, ?_⟩
            refine WS_ret ?_; simp [c1, c2, c3, dlN, e1]

set_option maxHeartbeats 4000000 in
theorem law_RatField (n1 n2 n3 : Bool) (l1 l2 l3 d1 d2 d3 : List Nat) (h1 : ZW (2 ^ 24) l1) (g1 : ZW (2 ^ 24) d1) (h2 : ZW (2 ^ 24) l2) (g2 : ZW (2 ^ 24) d2) (h3 : ZW (2 ^ 24) l3) (g3 : ZW (2 ^ 24) d3) :
    Spec Try.prog f_law03_RatField [rv n1 l1 d1, rv n2 l2 d2, rv n3 l3 d3] (· = [.pure (.b true)]) := by
  have fw : Spec Try.prog f_law03_few [.i .i64 6, .sl (some 3) [rv n1 l1 d1, rv n2 l2 d2, rv n3 l3 d3]] (· = [.pure (.b (few3B 6 [(n1, l1, d1), (n2, l2, d2), (n3, l3, d3)]))]) := few3_three 6 (by omega) n1 n2 n3 l1 l2 l3 d1 d2 d3
  have aw := awake3
  refine spec_at Try.func32 ok_law03_RatField [] rfl (by simp) ?_
  unfold sc_law03_RatField
  cases hf : few3B 6 [(n1, l1, d1), (n2, l2, d2), (n3, l3, d3)] with
  | false =>
    rw [hf] at fw
    refine WS_seq (WS_reg [] ?_); simp
    refine WS_seq (WS_reg [] ?_); simp
    refine callK aw ?_; simp
    refine WS_seq (WS_seq (WS_reg [] ?_)); simp
    refine callK fw ?_; simp
    refine WS_cond (t := true) (by simp) (fun _ => ?_) (fun h => by cases h)
    refine WS_seq (WS_reg [] ?_); simp
    refine WS_ret ?_; simp
  | true =>
    rw [hf] at fw
    have ia := isQ_rv (n := n1) h1 g1
    have ib := isQ_rv (n := n2) h2 g2
    have ic := isQ_rv (n := n3) h3 g3
    obtain ⟨a, ha⟩ : ∃ q, q = rq n1 l1 d1 := ⟨_, rfl⟩
    obtain ⟨b, hb⟩ : ∃ q, q = rq n2 l2 d2 := ⟨_, rfl⟩
    obtain ⟨c, hc⟩ : ∃ q, q = rq n3 l3 d3 := ⟨_, rfl⟩
    rw [← ha] at ia
    rw [← hb] at ib
    rw [← hc] at ic
    have qa := ia.ql
    have qb := ib.ql
    have qc := ic.ql
    have lift : ∀ {k : Nat} {q : Rat}, k ≤ 2 ^ 26 → QL k q → IsQ (2 ^ 26) (Q q) q := fun hk h => (isQ_Q h).mono hk
    have o1 := qof 1 (by omega) (by omega)
    have o0 := qof 0 (by omega) (by omega)
    rw [show ((1 : Int) : Rat) = 1 by rfl] at o1
    rw [show ((0 : Int) : Rat) = 0 by rfl] at o0
    have l1' : QL 1 (1 : Rat) := ⟨zlen_one, zlen_one⟩
    have l0' : QL 1 (0 : Rat) := ⟨by rw [Rat.zero_num, zlen_zero]; omega, zlen_one⟩
    have dv := qdiv (lift (by omega) l1') (ia.mono (by omega)) (by omega)
    have sg := qsign ia (by omega)
    have ab := qadd ia ib (by omega)
    have ba := qadd ib ia (by omega)
    rw [Rat.add_comm b a] at ba
    have lab := ql_add qa qb
    have s1 := same3_Q lab (by omega)
    have mab := qmul ia ib (by omega)
    have mba := qmul ib ia (by omega)
    rw [Rat.mul_comm b a] at mba
    have lmab := ql_mul qa qb
    have s2 := same3_Q lmab (by omega)
    have lbc := ql_add qb qc
    have bc := qadd ib ic (by omega)
    have abc1 := qadd (lift (by omega) lab) (ic.mono (by omega)) (by omega)
    have abc2 := qadd (ia.mono (by omega)) (lift (by omega) lbc) (by omega)
    rw [← Rat.add_assoc] at abc2
    have s3 := same3_Q (ql_add (lab.mono (show _ ≤ 2 ^ 26 by omega)) (qc.mono (show _ ≤ 2 ^ 26 by omega))) (by omega)
    have mbc := qmul ib ic (by omega)
    have lmbc := ql_mul qb qc
    have mabc1 := qmul (lift (by omega) lmab) (ic.mono (by omega)) (by omega)
    have mabc2 := qmul (ia.mono (by omega)) (lift (by omega) lmbc) (by omega)
    rw [← Rat.mul_assoc] at mabc2
    have s4 := same3_Q (ql_mul (lmab.mono (show _ ≤ 2 ^ 26 by omega)) (qc.mono (show _ ≤ 2 ^ 26 by omega))) (by omega)
    have mac := qmul ia ic (by omega)
    have lmac := ql_mul qa qc
    have d1' := qmul (ia.mono (by omega)) (lift (by omega) lbc) (by omega)
    have d2' := qadd (lift (by omega) lmab) (lift (by omega) lmac) (by omega)
    rw [← Rat.mul_add] at d2'
    have s5 := same3_Q (ql_mul (qa.mono (show _ ≤ 2 ^ 26 by omega)) (lbc.mono (show _ ≤ 2 ^ 26 by omega))) (by omega)
    have sb := qsub ia ia (by omega)
    rw [Rat.sub_self] at sb
    have s6 := same3_Q l0' (by omega)
    have a0 := qadd (ia.mono (by omega)) (lift (by omega) l0') (by omega)
    rw [Rat.add_zero] at a0
    have nm := qnorm ia (by omega)
    have s7 := same3_Q qa (by omega)
    have s8 := same3_Q l1' (by omega)
    obtain ⟨x1, hx1⟩ : ∃ q, q = a + b := ⟨_, rfl⟩
    rw [← hx1] at ab ba s1 abc1 abc2 s3
    obtain ⟨x2, hx2⟩ : ∃ q, q = a * b := ⟨_, rfl⟩
    rw [← hx2] at mab mba s2 mabc1 mabc2 s4 d2'
    obtain ⟨x3, hx3⟩ : ∃ q, q = x1 + c := ⟨_, rfl⟩
    rw [← hx3] at abc1 abc2 s3
    obtain ⟨x4, hx4⟩ : ∃ q, q = b + c := ⟨_, rfl⟩
    rw [← hx4] at bc abc2 d1' d2' s5
    obtain ⟨x5, hx5⟩ : ∃ q, q = b * c := ⟨_, rfl⟩
    rw [← hx5] at mbc mabc2
    obtain ⟨x6, hx6⟩ : ∃ q, q = x2 * c := ⟨_, rfl⟩
    rw [← hx6] at mabc1 mabc2 s4
    obtain ⟨x7, hx7⟩ : ∃ q, q = a * c := ⟨_, rfl⟩
    rw [← hx7] at mac d2'
    obtain ⟨x8, hx8⟩ : ∃ q, q = a * x4 := ⟨_, rfl⟩
    rw [← hx8] at d1' d2' s5
    by_cases h0 : a = 0
    · have hs : a.num.sign = 0 := by rw [h0]; rfl
      rw [divR, if_pos h0] at dv
      rw [hs] at sg
      refine WS_seq (WS_reg [] ?_); simp
      refine WS_seq (WS_reg [] ?_); simp
      refine callK aw ?_; simp
      refine WS_seq (WS_seq (WS_reg [] ?_)); simp
      refine callK fw ?_; simp
      refine WS_cond (t := false) (by simp) (fun h => by cases h) (fun _ => ?_)
      refine WS_skip ?_; simp
      refine WS_seq (WS_regD [] ?_); simp
      refine callD o1 rfl ?_; simp
      refine callD dv rfl ?_; simp
      refine ⟨rfl, ?_⟩
      refine WS_seq (WS_seq (WS_reg [] ?_)); simp
      refine callK sg ?_; simp
      refine callK sg ?_; simp
      refine WS_cond (t := false) (by simp) (fun h => by cases h) (fun _ => ?_)
      refine WS_skip ?_; simp
      refine WS_seq (WS_regD [] ?_); simp
      refine callD ab rfl ?_; simp
      refine callD ba rfl ?_; simp
      refine callD s1 rfl ?_; simp
      refine callD mab rfl ?_; simp
      refine callD mba rfl ?_; simp
      refine callD s2 rfl ?_; simp
      refine callD ab rfl ?_; simp
      refine callD abc1 rfl ?_; simp
      refine callD bc rfl ?_; simp
      refine callD abc2 rfl ?_; simp
      refine callD s3 rfl ?_; simp
      refine callD mab rfl ?_; simp
      refine callD mabc1 rfl ?_; simp
      refine callD mbc rfl ?_; simp
      refine callD mabc2 rfl ?_; simp
      refine callD s4 rfl ?_; simp
      refine callD bc rfl ?_; simp
      refine callD d1' rfl ?_; simp
      refine callD mab rfl ?_; simp
      refine callD mac rfl ?_; simp
      refine callD d2' rfl ?_; simp
      refine callD s5 rfl ?_; simp
      refine callD sb rfl ?_; simp
      refine callD o0 rfl ?_; simp
      refine callD s6 rfl ?_; simp
      refine callD o0 rfl ?_; simp
      refine callD a0 rfl ?_; simp
      refine callD nm rfl ?_; simp
      refine callD s7 rfl ?_; simp
      refine ⟨rfl, ?_⟩
      refine WS_ret ?_; simp
    · have hs : a.num.sign ≠ 0 := sign_ne (by rw [Ne, Rat.num_eq_zero]; exact h0)
      have e2 : (a.num.sign == 0) = false := by simpa using hs
      have e3 : (a.num.sign != 0) = true := by simpa using hs
      have hn0 : a.num ≠ 0 := by rw [Ne, Rat.num_eq_zero]; exact h0
      rw [divR, if_neg h0] at dv
      have ma := qmul (ia.mono (by omega)) (lift (by omega) (ql_div (l1'.mono (show 1 ≤ 2 ^ 24 + 1 by omega)) qa)) (by omega)
      rw [q_inv a h0] at ma
      obtain ⟨y, hy⟩ : ∃ q, q = 1 / a := ⟨_, rfl⟩
      rw [← hy] at dv ma
      obtain ⟨o, ho⟩ : ∃ q : Rat, q = 1 := ⟨_, rfl⟩
      rw [← ho] at dv ma o1 s8
      refine WS_seq (WS_reg [] ?_); simp [hs, e2, e3, h0, hn0]
      refine WS_seq (WS_reg [] ?_); simp [hs, e2, e3, h0, hn0]
      refine callK aw ?_; simp [hs, e2, e3, h0, hn0]
      refine WS_seq (WS_seq (WS_reg [] ?_)); simp [hs, e2, e3, h0, hn0]
      refine callK fw ?_; simp [hs, e2, e3, h0, hn0]
      refine WS_cond (t := false) (by simp [hs, e2, e3, h0, hn0]) (fun h => by cases h) (fun _ => ?_)
      refine WS_skip ?_; simp [hs, e2, e3, h0, hn0]
      refine WS_seq (WS_regD [] ?_); simp [hs, e2, e3, h0, hn0]
      refine callD o1 rfl ?_; simp [hs, e2, e3, h0, hn0]
      refine callD dv rfl ?_; simp [hs, e2, e3, h0, hn0]
      refine ⟨rfl, ?_⟩
      refine WS_seq (WS_seq (WS_reg [] ?_)); simp [hs, e2, e3, h0, hn0]
      refine callK sg ?_; simp [hs, e2, e3, h0, hn0]
      refine callK sg ?_; simp [hs, e2, e3, h0, hn0]
      refine callK ma ?_; simp [hs, e2, e3, h0, hn0]
      refine callK o1 ?_; simp [hs, e2, e3, h0, hn0]
      refine callK s8 ?_; simp [hs, e2, e3, h0, hn0]
      refine WS_cond (t := false) (by simp [hs, e2, e3, h0, hn0]) (fun h => by cases h) (fun _ => ?_)
      refine WS_skip ?_; simp [hs, e2, e3, h0, hn0]
      refine WS_seq (WS_regD [] ?_); simp [hs, e2, e3, h0, hn0]
      refine callD ab rfl ?_; simp [hs, e2, e3, h0, hn0]
      refine callD ba rfl ?_; simp [hs, e2, e3, h0, hn0]
      refine callD s1 rfl ?_; simp [hs, e2, e3, h0, hn0]
      refine callD mab rfl ?_; simp [hs, e2, e3, h0, hn0]
      refine callD mba rfl ?_; simp [hs, e2, e3, h0, hn0]
      refine callD s2 rfl ?_; simp [hs, e2, e3, h0, hn0]
      refine callD ab rfl ?_; simp [hs, e2, e3, h0, hn0]
      refine callD abc1 rfl ?_; simp [hs, e2, e3, h0, hn0]
      refine callD bc rfl ?_; simp [hs, e2, e3, h0, hn0]
      refine callD abc2 rfl ?_; simp [hs, e2, e3, h0, hn0]
      refine callD s3 rfl ?_; simp [hs, e2, e3, h0, hn0]
      refine callD mab rfl ?_; simp [hs, e2, e3, h0, hn0]
      refine callD mabc1 rfl ?_; simp [hs, e2, e3, h0, hn0]
      refine callD mbc rfl ?_; simp [hs, e2, e3, h0, hn0]
      refine callD mabc2 rfl ?_; simp [hs, e2, e3, h0, hn0]
      refine callD s4 rfl ?_; simp [hs, e2, e3, h0, hn0]
      refine callD bc rfl ?_; simp [hs, e2, e3, h0, hn0]
      refine callD d1' rfl ?_; simp [hs, e2, e3, h0, hn0]
      refine callD mab rfl ?_; simp [hs, e2, e3, h0, hn0]
      refine callD mac rfl ?_; simp [hs, e2, e3, h0, hn0]
      refine callD d2' rfl ?_; simp [hs, e2, e3, h0, hn0]
      refine callD s5 rfl ?_; simp [hs, e2, e3, h0, hn0]
      refine callD sb rfl ?_; simp [hs, e2, e3, h0, hn0]
      refine callD o0 rfl ?_; simp [hs, e2, e3, h0, hn0]
      refine callD s6 rfl ?_; simp [hs, e2, e3, h0, hn0]
      refine callD o0 rfl ?_; simp [hs, e2, e3, h0, hn0]
      refine callD a0 rfl ?_; simp [hs, e2, e3, h0, hn0]
      refine callD nm rfl ?_; simp [hs, e2, e3, h0, hn0]
      refine callD s7 rfl ?_; simp [hs, e2, e3, h0, hn0]
      refine ⟨rfl, ?_⟩
      refine WS_ret ?_; simp [hs, e2, e3, h0, hn0]

end Go.Vw
