/- The contracts of the laws of layer 3 and 4. -/
import Derived.Test.YtphcdigmgbhjcaaGreatMA
import Derived.Test.YtphcdigmgbhjcaaGreatMB
import Derived.Test.YtphcdigmgbhjcaaGreatMC
import Derived.Test.YtphcdigmgbhjcaaGreatMD
import Derived.Test.YtphcdigmgbhjcaaGreatME
import Derived.Test.YtphcdigmgbhjcaaGreatMF
import Derived.Test.YtphcdigmgbhjcaaGreatMG
set_option linter.unusedVariables false
set_option linter.unusedSimpArgs false
namespace Go.Vw
open Go.Proofs

attribute [local simp] RunL_cons RunL_nil AOp_none AOp_some acK_v acK_call agK_tt agK_ff agK_tf agK_ft agK_tup agK_i aop aun St.ev St.heap St.put thenQ blockQ scopeQ upd_apply S0 argSlot lowV V.cells V.isAgg V.fits V.part partOk plains St.ret retSV svOf svsOf retQ retP retAll retOne uL_length uL_get? uL_get St.elems retH ownIdx ownAt
attribute [local simp] RunD_none RunD_some RunD_nil RunE_any acD_v acD_call agD_tt agD_ff agD_tf agD_ft agD_tup entsOf svref SO.opds SO.writes SO.makes callEnt pureSV pureOf RV.isOwn
attribute [local simp] abin_add abin_sub abin_mul abin_quo abin_rem abin_eql abin_neq abin_lss abin_leq abin_gtr abin_geq
attribute [local simp] uL_snoc uL_set uL_take uL_drop uL_append uL_replicate uL_nil
attribute [local simp] acK_callG acD_callG St.giv gsSV gvSV retEnts ownEnts SO.still
attribute [local simp] S0G argSlotG givSV retQG retPG retAllG retOneG HObj.width V.scalar trimQ V.byte
attribute [local simp] zv V.fits fillOk fillV Z_eq rv Q_eq
theorem awake3 : Spec Tryz.prog f_law03_awake [] (· = [.pure (.b true)]) := by
  have o6 := zof 6 (by omega) (by omega)
  have o4 := zof (-4) (by omega) (by omega)
  have mk := zmake (k := 1) (isZ_Z (z := 6) (zlen_small (by decide))) (isZ_Z (z := -4) (zlen_small (by decide))) (by omega)
  rw [makeR, if_neg (by omega)] at mk
  have tt := qtext (isQ_Q (k := 2) (q := Rat.divInt 6 (-4)) (divInt_len (k := 1) (zlen_small (by decide)) (zlen_small (by decide)))) (by omega)
  have hT : qT (Rat.divInt 6 (-4)) = [45, 51, 47, 50] := by decide +kernel
  rw [hT] at tt
  have pp := qparse [50, 47, 52] (by simp)
  have hP : qP [50, 47, 52] = none := by decide +kernel
  rw [hP, qPR] at pp
  obtain ⟨q, hq⟩ : ∃ q, q = Rat.divInt 6 (-4) := ⟨_, rfl⟩
  rw [← hq] at mk tt
  refine spec_at Tryz.func16 ok_law03_awake [] rfl (by simp) ?_
  unfold sc_law03_awake
  refine WS_seq (WS_reg [] ?_); simp [tx, abin_seql]
  refine WS_seq (WS_reg [] ?_); simp [tx, abin_seql]
  refine callK o6 ?_; simp [tx, abin_seql]
  refine callK o4 ?_; simp [tx, abin_seql]
  refine callK mk ?_; simp [tx, abin_seql]
  refine WS_seq (WS_reg [] ?_); simp [tx, abin_seql]
  refine callK pp ?_; simp [tx, abin_seql]
  refine WS_seq (WS_reg [] ?_); simp [tx, abin_seql]
  refine callK tt ?_; simp [tx, abin_seql]
  refine WS_ret ?_; simp [tx, abin_seql]

theorem few3 (n : Nat) (hn : n ≤ 2 ^ 40) (L : List (Bool × List Nat × List Nat)) (hL : L.length ≤ 2 ^ 40) : Spec Tryz.prog f_law03_few [.i .i64 (n : Int), .sl (some 3) (rL L)] (· = [.pure (.b (few3B n L))]) := by
  refine spec_at Tryz.func17 ok_law03_few [] rfl (by simp) ?_
  unfold sc_law03_few
  obtain ⟨m, hm⟩ : ∃ m, m = L.length := ⟨_, rfl⟩
  have hzl : (rL L).length = m := by simp [rL, hm]
  refine WS_seq (WS_reg [] ?_); simp
  refine WS_seq (WS_seq (WS_reg [] ?_)); simp
  refine WS_block (WS_loop (fun S => ∃ i : Nat, i ≤ m ∧ S.σ 0 = .p (.i .i64 (n : Int)) ∧ S.σ 1 = .p (.sl (some 3) (rL L)) ∧ S.σ 5 = .p (.i .i64 (i : Int)) ∧ few3B n (L.take i) = true) (fun S => match S.σ 5 with | .p (.i _ k) => m - k.toNat | _ => 0) ⟨0, by omega, by simp, by simp, by simp, rfl⟩ ?_)
  rintro S ⟨i, hi, s0, s1, s5, hall⟩
  refine WS_seq (WS_seq (WS_reg [] ?_)); simp [s1, s5, hzl]
  by_cases hlt : i < m
  · have hil : i < L.length := by omega
    have hiz : i < (rL L).length := by omega
    have hlt' : (i : Int) < (m : Int) := by omega
    have hget : (rL L)[i] = .agg [.b L[i].1, .sl none (uL L[i].2.1), .sl none (uL L[i].2.2)] := by simp [rL]
    have htk : (L.take (i + 1)) = L.take i ++ [L[i]] := List.take_succ_eq_append_getElem hil
    obtain ⟨p, hp⟩ : ∃ p, p = L[i] := ⟨_, rfl⟩
    rw [← hp] at hget htk
    have w1 := i64_succ i (by omega)
    refine WS_cond (t := true) (by simp; omega) (fun _ => ?_) (fun h => by cases h)
    refine WS_skip ?_; simp
    by_cases hg : (n : Int) < (p.2.1.length : Int)
    · have hno : few3B n L = false := by
        rw [few3B, List.all_eq_false]
        exact ⟨p, by rw [hp]; exact List.getElem_mem hil, by simp; omega⟩
      rw [hno]
      refine WS_seq (WS_block (WS_seq (WS_reg [] ?_))); simp [s0, s1, s5, hiz, hzl, hlt, hlt', hget, hg]
      refine WS_cond (t := true) (by simp) (fun _ => ?_) (fun h => by cases h)
      refine WS_seq (WS_reg [] ?_); simp
      refine WS_ret ?_; simp
    · by_cases hg2 : (n : Int) < (p.2.2.length : Int)
      · have hno : few3B n L = false := by
          rw [few3B, List.all_eq_false]
          exact ⟨p, by rw [hp]; exact List.getElem_mem hil, by simp; omega⟩
        rw [hno]
        refine WS_seq (WS_block (WS_seq (WS_reg [] ?_))); simp [s0, s1, s5, hiz, hzl, hlt, hlt', hget, hg, hg2]
        refine WS_cond (t := true) (by simp) (fun _ => ?_) (fun h => by cases h)
        refine WS_seq (WS_reg [] ?_); simp
        refine WS_ret ?_; simp
      · refine WS_seq (WS_block (WS_seq (WS_reg [] ?_))); simp [s0, s1, s5, hiz, hzl, hlt, hlt', hget, hg, hg2]
        refine WS_cond (t := false) (by simp) (fun h => by cases h) (fun _ => ?_)
        refine WS_skip ?_; simp
        refine WS_reg [] ?_; simp [s0, s1, s5, w1]
        refine ⟨⟨i + 1, by omega, rfl, ?_⟩, by omega⟩
        rw [htk, few3B, List.all_append]
        rw [few3B] at hall
        rw [hall]
        simp at hg hg2 ⊢
        omega
  · have him : i = m := by omega
    refine WS_cond (t := false) (by simp; omega) (fun h => by cases h) (fun _ => ?_)
    refine WS_exit ?_; simp
    refine WS_seq (WS_reg [] ?_); simp
    refine WS_ret ?_
    rw [him, List.take_of_length_le (by omega)] at hall
    simp only [hall]
    simp

theorem same3 (n : Bool) (l d : List Nat) (hl : l.length ≤ 2 ^ 40) (hd : d.length ≤ 2 ^ 40) : Spec Tryz.prog f_law03_same [rv n l d, rv n l d] (· = [.pure (.b true)]) := by
  have sm := qsame n l d hl hd
  refine spec_at Tryz.func20 ok_law03_same [] rfl (by simp) ?_
  unfold sc_law03_same
  refine WS_seq (WS_reg [] ?_); simp
  refine WS_seq (WS_reg [] ?_); simp
  refine callK sm ?_; simp
  refine WS_ret ?_; simp
theorem same3_Q {k : Nat} {q : Rat} (h : QL k q) (hk : k ≤ 2 ^ 40) : Spec Tryz.prog f_law03_same [Q q, Q q] (· = [.pure (.b true)]) := same3 _ _ _ (by have := h.num; rw [zlen] at this; omega) (by rw [qd_len]; have := h.den; omega)

end Go.Vw
namespace Go.Vw
open Go.Proofs

attribute [local simp] RunL_cons RunL_nil AOp_none AOp_some acK_v acK_call agK_tt agK_ff agK_tf agK_ft agK_tup agK_i aop aun St.ev St.heap St.put thenQ blockQ scopeQ upd_apply S0 argSlot lowV V.cells V.isAgg V.fits V.part partOk plains St.ret retSV svOf svsOf retQ retP retAll retOne uL_length uL_get? uL_get St.elems retH ownIdx ownAt
attribute [local simp] RunD_none RunD_some RunD_nil RunE_any acD_v acD_call agD_tt agD_ff agD_tf agD_ft agD_tup entsOf svref SO.opds SO.writes SO.makes callEnt pureSV pureOf RV.isOwn
attribute [local simp] abin_add abin_sub abin_mul abin_quo abin_rem abin_eql abin_neq abin_lss abin_leq abin_gtr abin_geq
attribute [local simp] uL_snoc uL_set uL_take uL_drop uL_append uL_replicate uL_nil
attribute [local simp] acK_callG acD_callG St.giv gsSV gvSV retEnts ownEnts SO.still
attribute [local simp] S0G argSlotG givSV retQG retPG retAllG retOneG HObj.width V.scalar trimQ V.byte
attribute [local simp] zv V.fits fillOk fillV Z_eq rv Q_eq
theorem few3_one (n : Nat) (hn : n ≤ 2 ^ 40) (n1 : Bool) (l1 d1 : List Nat) : Spec Tryz.prog f_law03_few [.i .i64 (n : Int), .sl (some 3) [rv n1 l1 d1]] (· = [.pure (.b (few3B n [(n1, l1, d1)]))]) := few3 n hn [(n1, l1, d1)] (by simp)
end Go.Vw
namespace Go.Vw
open Go.Proofs

attribute [local simp] RunL_cons RunL_nil AOp_none AOp_some acK_v acK_call agK_tt agK_ff agK_tf agK_ft agK_tup agK_i aop aun St.ev St.heap St.put thenQ blockQ scopeQ upd_apply S0 argSlot lowV V.cells V.isAgg V.fits V.part partOk plains St.ret retSV svOf svsOf retQ retP retAll retOne uL_length uL_get? uL_get St.elems retH ownIdx ownAt
attribute [local simp] RunD_none RunD_some RunD_nil RunE_any acD_v acD_call agD_tt agD_ff agD_tf agD_ft agD_tup entsOf svref SO.opds SO.writes SO.makes callEnt pureSV pureOf RV.isOwn
attribute [local simp] abin_add abin_sub abin_mul abin_quo abin_rem abin_eql abin_neq abin_lss abin_leq abin_gtr abin_geq
attribute [local simp] uL_snoc uL_set uL_take uL_drop uL_append uL_replicate uL_nil
attribute [local simp] acK_callG acD_callG St.giv gsSV gvSV retEnts ownEnts SO.still
attribute [local simp] S0G argSlotG givSV retQG retPG retAllG retOneG HObj.width V.scalar trimQ V.byte
attribute [local simp] zv V.fits fillOk fillV Z_eq rv Q_eq
end Go.Vw
namespace Go.Vw
open Go.Proofs

attribute [local simp] RunL_cons RunL_nil AOp_none AOp_some acK_v acK_call agK_tt agK_ff agK_tf agK_ft agK_tup agK_i aop aun St.ev St.heap St.put thenQ blockQ scopeQ upd_apply S0 argSlot lowV V.cells V.isAgg V.fits V.part partOk plains St.ret retSV svOf svsOf retQ retP retAll retOne uL_length uL_get? uL_get St.elems retH ownIdx ownAt
attribute [local simp] RunD_none RunD_some RunD_nil RunE_any acD_v acD_call agD_tt agD_ff agD_tf agD_ft agD_tup entsOf svref SO.opds SO.writes SO.makes callEnt pureSV pureOf RV.isOwn
attribute [local simp] abin_add abin_sub abin_mul abin_quo abin_rem abin_eql abin_neq abin_lss abin_leq abin_gtr abin_geq
attribute [local simp] uL_snoc uL_set uL_take uL_drop uL_append uL_replicate uL_nil
attribute [local simp] acK_callG acD_callG St.giv gsSV gvSV retEnts ownEnts SO.still
attribute [local simp] S0G argSlotG givSV retQG retPG retAllG retOneG HObj.width V.scalar trimQ V.byte
attribute [local simp] zv V.fits fillOk fillV Z_eq rv Q_eq
theorem few3_pair (n : Nat) (hn : n ≤ 2 ^ 40) (n1 n2 : Bool) (l1 l2 d1 d2 : List Nat) : Spec Tryz.prog f_law03_few [.i .i64 (n : Int), .sl (some 3) [rv n1 l1 d1, rv n2 l2 d2]] (· = [.pure (.b (few3B n [(n1, l1, d1), (n2, l2, d2)]))]) := few3 n hn [(n1, l1, d1), (n2, l2, d2)] (by simp)

set_option maxHeartbeats 2000000 in
theorem law_RatAdds (n1 n2 : Bool) (l1 l2 d1 d2 : List Nat) (h1 : ZW (2 ^ 24) l1) (g1 : ZW (2 ^ 24) d1) (h2 : ZW (2 ^ 24) l2) (g2 : ZW (2 ^ 24) d2) :
    Spec Tryz.prog f_law03_RatAdds [rv n1 l1 d1, rv n2 l2 d2] (· = [.pure (.b true)]) := by
  have fw : Spec Tryz.prog f_law03_few [.i .i64 5, .sl (some 3) [rv n1 l1 d1, rv n2 l2 d2]] (· = [.pure (.b (few3B 5 [(n1, l1, d1), (n2, l2, d2)]))]) := few3_pair 5 (by omega) n1 n2 l1 l2 d1 d2
  have aw := awake3
  refine spec_at Tryz.func7 ok_law03_RatAdds [] rfl (by simp) ?_
  unfold sc_law03_RatAdds
  cases hf : few3B 5 [(n1, l1, d1), (n2, l2, d2)] with
  | false =>
    rw [hf] at fw
    refine WS_seq (WS_reg [] ?_); simp
    refine WS_seq (WS_reg [] ?_); simp
    refine callK aw ?_; simp
    refine WS_seq (WS_seq (WS_reg [] ?_)); simp
    refine callK fw ?_; simp
    refine WS_cond (t := true) (by simp) (fun _ => ?_) (fun h => by cases h)
    refine WS_seq (WS_reg [] ?_); simp
    refine WS_ret ?_; simp
  | true =>
    rw [hf] at fw
    obtain ⟨f1, f2, f3, f4⟩ := few3_both hf
    have ia := isQ_rv (n := n1) (l := l1) (d := d1) (k := 5) ⟨h1.dl, f1⟩ ⟨g1.dl, f2⟩
    have ib := isQ_rv (n := n2) (l := l2) (d := d2) (k := 5) ⟨h2.dl, f3⟩ ⟨g2.dl, f4⟩
    obtain ⟨q, hq⟩ : ∃ q, q = rq n1 l1 d1 := ⟨_, rfl⟩
    obtain ⟨r, hr⟩ : ∃ q, q = rq n2 l2 d2 := ⟨_, rfl⟩
    rw [← hq] at ia
    rw [← hr] at ib
    clear hq hr
    have qa := ia.ql
    have qb := ib.ql
    have dz := qdiv ia ib (by omega)
    have dr := rdiv3 ia ib (by omega)
    have wz := qwhole ia (by omega)
    have wr := rwhole3 ia (by omega)
    have nz := qnorm ia (by omega)
    have nr := rnorm3 ia (by omega)
    have s1 := same3_Q qa (by omega)
    have az := qadd ia ib (by omega)
    have ar := radd3 ia ib (by omega)
    have s2 := same3_Q (ql_add qa qb) (by omega)
    have bz := qsub ia ib (by omega)
    have br := rsub3 ia ib (by omega)
    have s3 := same3_Q (ql_sub qa qb) (by omega)
    have mz := qmul ia ib (by omega)
    have mr := rmul3 ia ib (by omega)
    have s4 := same3_Q (ql_mul qa qb) (by omega)
    have ez := qneg ia (by omega)
    have er := rneg3 ia (by omega)
    have s5 := same3_Q (ql_neg qa) (by omega)
    have s6 := same3_Q (ql_div qa qb) (by omega)
    have s60 := same3 false [] [] (by simp) (by simp)
    have cz := qcmp ia ib (by omega)
    have cr := rcmp3 ia ib (by omega)
    have gz := qsign ia (by omega)
    have gr := rsign3 ia (by omega)
    have s7 := zsame q.num (by have := qa.num; omega)
    have s70 := zsame 0 (by rw [zlen_zero]; omega)
    obtain ⟨x1, hx1⟩ : ∃ x, x = q + r := ⟨_, rfl⟩
    obtain ⟨x2, hx2⟩ : ∃ x, x = q - r := ⟨_, rfl⟩
    obtain ⟨x3, hx3⟩ : ∃ x, x = q * r := ⟨_, rfl⟩
    obtain ⟨x4, hx4⟩ : ∃ x, x = q / r := ⟨_, rfl⟩
    obtain ⟨x5, hx5⟩ : ∃ x, x = -q := ⟨_, rfl⟩
    rw [← hx1] at az ar s2
    rw [← hx2] at bz br s3 cz cr
    rw [← hx3] at mz mr s4
    rw [← hx5] at ez er s5
    rw [← hx4] at s6
    obtain ⟨c, hc⟩ : ∃ x, x = x2.num.sign := ⟨_, rfl⟩
    rw [← hc] at cz cr
    obtain ⟨g, hg⟩ : ∃ x, x = q.num.sign := ⟨_, rfl⟩
    rw [← hg] at gz gr
    by_cases r0 : r = 0
    · rw [divR, if_pos r0] at dz dr
      by_cases w0 : q.den = 1
      · rw [wholeR, if_pos w0] at wz wr
        clear hx1 hx2 hx3 hx4 hx5 hc hg
        refine WS_seq (WS_reg [] ?_); simp
        refine WS_seq (WS_reg [] ?_); simp
        refine callK aw ?_; simp
        refine WS_seq (WS_seq (WS_reg [] ?_)); simp
        refine callK fw ?_; simp
        refine WS_cond (t := false) (by simp) (fun h => by cases h) (fun _ => ?_)
        refine WS_skip ?_; simp
        refine WS_seq (WS_reg [] ?_); simp
        refine callK dz ?_; simp
        refine WS_seq (WS_reg [] ?_); simp
        refine callK dr ?_; simp
        refine WS_seq (WS_reg [] ?_); simp
        refine callK wz ?_; simp
        refine WS_seq (WS_reg [] ?_); simp
        refine callK wr ?_; simp
        refine WS_seq (WS_regD [] ?_); simp
        refine callD nz rfl ?_; simp
        refine callD nr rfl ?_; simp
        refine callD s1 rfl ?_; simp
        refine callD az rfl ?_; simp
        refine callD ar rfl ?_; simp
        refine callD s2 rfl ?_; simp
        refine callD bz rfl ?_; simp
        refine callD br rfl ?_; simp
        refine callD s3 rfl ?_; simp
        refine callD mz rfl ?_; simp
        refine callD mr rfl ?_; simp
        refine callD s4 rfl ?_; simp
        refine callD ez rfl ?_; simp
        refine callD er rfl ?_; simp
        refine callD s5 rfl ?_; simp
        refine callD s60 rfl ?_; simp
        refine callD cz rfl ?_; simp
        refine callD cr rfl ?_; simp
        refine callD gz rfl ?_; simp
        refine callD gr rfl ?_; simp
        refine callD s7 rfl ?_; simp
        refine ⟨rfl, ?_⟩
        refine WS_ret ?_; simp
      · rw [wholeR, if_neg w0] at wz wr
        clear hx1 hx2 hx3 hx4 hx5 hc hg
        refine WS_seq (WS_reg [] ?_); simp
        refine WS_seq (WS_reg [] ?_); simp
        refine callK aw ?_; simp
        refine WS_seq (WS_seq (WS_reg [] ?_)); simp
        refine callK fw ?_; simp
        refine WS_cond (t := false) (by simp) (fun h => by cases h) (fun _ => ?_)
        refine WS_skip ?_; simp
        refine WS_seq (WS_reg [] ?_); simp
        refine callK dz ?_; simp
        refine WS_seq (WS_reg [] ?_); simp
        refine callK dr ?_; simp
        refine WS_seq (WS_reg [] ?_); simp
        refine callK wz ?_; simp
        refine WS_seq (WS_reg [] ?_); simp
        refine callK wr ?_; simp
        refine WS_seq (WS_regD [] ?_); simp
        refine callD nz rfl ?_; simp
        refine callD nr rfl ?_; simp
        refine callD s1 rfl ?_; simp
        refine callD az rfl ?_; simp
        refine callD ar rfl ?_; simp
        refine callD s2 rfl ?_; simp
        refine callD bz rfl ?_; simp
        refine callD br rfl ?_; simp
        refine callD s3 rfl ?_; simp
        refine callD mz rfl ?_; simp
        refine callD mr rfl ?_; simp
        refine callD s4 rfl ?_; simp
        refine callD ez rfl ?_; simp
        refine callD er rfl ?_; simp
        refine callD s5 rfl ?_; simp
        refine callD s60 rfl ?_; simp
        refine callD cz rfl ?_; simp
        refine callD cr rfl ?_; simp
        refine callD gz rfl ?_; simp
        refine callD gr rfl ?_; simp
        refine callD s70 rfl ?_; simp
        refine ⟨rfl, ?_⟩
        refine WS_ret ?_; simp
    · rw [divR, if_neg r0, ← hx4] at dz dr
      by_cases w0 : q.den = 1
      · rw [wholeR, if_pos w0] at wz wr
        clear hx1 hx2 hx3 hx4 hx5 hc hg
        refine WS_seq (WS_reg [] ?_); simp
        refine WS_seq (WS_reg [] ?_); simp
        refine callK aw ?_; simp
        refine WS_seq (WS_seq (WS_reg [] ?_)); simp
        refine callK fw ?_; simp
        refine WS_cond (t := false) (by simp) (fun h => by cases h) (fun _ => ?_)
        refine WS_skip ?_; simp
        refine WS_seq (WS_reg [] ?_); simp
        refine callK dz ?_; simp
        refine WS_seq (WS_reg [] ?_); simp
        refine callK dr ?_; simp
        refine WS_seq (WS_reg [] ?_); simp
        refine callK wz ?_; simp
        refine WS_seq (WS_reg [] ?_); simp
        refine callK wr ?_; simp
        refine WS_seq (WS_regD [] ?_); simp
        refine callD nz rfl ?_; simp
        refine callD nr rfl ?_; simp
        refine callD s1 rfl ?_; simp
        refine callD az rfl ?_; simp
        refine callD ar rfl ?_; simp
        refine callD s2 rfl ?_; simp
        refine callD bz rfl ?_; simp
        refine callD br rfl ?_; simp
        refine callD s3 rfl ?_; simp
        refine callD mz rfl ?_; simp
        refine callD mr rfl ?_; simp
        refine callD s4 rfl ?_; simp
        refine callD ez rfl ?_; simp
        refine callD er rfl ?_; simp
        refine callD s5 rfl ?_; simp
        refine callD s6 rfl ?_; simp
        refine callD cz rfl ?_; simp
        refine callD cr rfl ?_; simp
        refine callD gz rfl ?_; simp
        refine callD gr rfl ?_; simp
        refine callD s7 rfl ?_; simp
        refine ⟨rfl, ?_⟩
        refine WS_ret ?_; simp
      · rw [wholeR, if_neg w0] at wz wr
        clear hx1 hx2 hx3 hx4 hx5 hc hg
        refine WS_seq (WS_reg [] ?_); simp
        refine WS_seq (WS_reg [] ?_); simp
        refine callK aw ?_; simp
        refine WS_seq (WS_seq (WS_reg [] ?_)); simp
        refine callK fw ?_; simp
        refine WS_cond (t := false) (by simp) (fun h => by cases h) (fun _ => ?_)
        refine WS_skip ?_; simp
        refine WS_seq (WS_reg [] ?_); simp
        refine callK dz ?_; simp
        refine WS_seq (WS_reg [] ?_); simp
        refine callK dr ?_; simp
        refine WS_seq (WS_reg [] ?_); simp
        refine callK wz ?_; simp
        refine WS_seq (WS_reg [] ?_); simp
        refine callK wr ?_; simp
        refine WS_seq (WS_regD [] ?_); simp
        refine callD nz rfl ?_; simp
        refine callD nr rfl ?_; simp
        refine callD s1 rfl ?_; simp
        refine callD az rfl ?_; simp
        refine callD ar rfl ?_; simp
        refine callD s2 rfl ?_; simp
        refine callD bz rfl ?_; simp
        refine callD br rfl ?_; simp
        refine callD s3 rfl ?_; simp
        refine callD mz rfl ?_; simp
        refine callD mr rfl ?_; simp
        refine callD s4 rfl ?_; simp
        refine callD ez rfl ?_; simp
        refine callD er rfl ?_; simp
        refine callD s5 rfl ?_; simp
        refine callD s6 rfl ?_; simp
        refine callD cz rfl ?_; simp
        refine callD cr rfl ?_; simp
        refine callD gz rfl ?_; simp
        refine callD gr rfl ?_; simp
        refine callD s70 rfl ?_; simp
        refine ⟨rfl, ?_⟩
        refine WS_ret ?_; simp

set_option maxHeartbeats 1000000 in
theorem law_RatTexts (n1 : Bool) (l1 d1 : List Nat) (h1 : ZW (2 ^ 24) l1) (g1 : ZW (2 ^ 24) d1) (s : List UInt8) (hs : s.length ≤ 2 ^ 40) :
    Spec Tryz.prog f_law03_RatTexts [rv n1 l1 d1, tx s] (· = [.pure (.b true)]) := by
  have fw : Spec Tryz.prog f_law03_few [.i .i64 10, .sl (some 3) [rv n1 l1 d1]] (· = [.pure (.b (few3B 10 [(n1, l1, d1)]))]) := few3_one 10 (by omega) n1 l1 d1
  have aw := awake3
  refine spec_at Tryz.func5 ok_law03_RatTexts [] rfl (by simp) ?_
  unfold sc_law03_RatTexts
  cases hf : few3B 10 [(n1, l1, d1)] with
  | false =>
    rw [hf] at fw
    refine WS_seq (WS_reg [] ?_); simp [tx]
    refine WS_seq (WS_reg [] ?_); simp [tx]
    refine callK aw ?_; simp [tx]
    refine WS_seq (WS_seq (WS_reg [] ?_)); simp [tx]
    refine callK fw ?_; simp [tx]
    refine WS_cond (t := true) (by simp [tx]) (fun _ => ?_) (fun h => by cases h)
    refine WS_seq (WS_reg [] ?_); simp [tx]
    refine WS_ret ?_; simp [tx]
  | true =>
    rw [hf] at fw
    obtain ⟨f1, f2⟩ := few3_alone hf
    by_cases c3 : (300 : Int) < (s.length : Int)
    · refine WS_seq (WS_reg [] ?_); simp [tx, bmk_size, c3]
      refine WS_seq (WS_reg [] ?_); simp [tx, bmk_size, c3]
      refine callK aw ?_; simp [tx, bmk_size, c3]
      refine WS_seq (WS_seq (WS_reg [] ?_)); simp [tx, bmk_size, c3]
      refine callK fw ?_; simp [tx, bmk_size, c3]
      refine WS_cond (t := true) (by simp [tx, bmk_size, c3]) (fun _ => ?_) (fun h => by cases h)
      refine WS_seq (WS_reg [] ?_); simp [tx, bmk_size, c3]
      refine WS_ret ?_; simp [tx, bmk_size, c3]
    · have ia := isQ_rv (n := n1) (l := l1) (d := d1) (k := 10) ⟨h1.dl, f1⟩ ⟨g1.dl, f2⟩
      obtain ⟨q, hq⟩ : ∃ q, q = rq n1 l1 d1 := ⟨_, rfl⟩
      rw [← hq] at ia
      have p1 := qparse s hs
      have p2 := rparse3 s hs
      have t1 := qtext ia (by omega)
      have t2 := rtext3 ia (by omega)
      obtain ⟨T, hT⟩ : ∃ t, t = qT q := ⟨_, rfl⟩
      rw [← hT] at t1 t2
      cases hp : qP s with
      | none =>
        rw [hp, qPR] at p1 p2
        have s0 := same3 false [] [] (by simp) (by simp)
        refine WS_seq (WS_reg [] ?_); simp [tx, bmk_size, c3, abin_seql]
        refine WS_seq (WS_reg [] ?_); simp [tx, bmk_size, c3, abin_seql]
        refine callK aw ?_; simp [tx, bmk_size, c3, abin_seql]
        refine WS_seq (WS_seq (WS_reg [] ?_)); simp [tx, bmk_size, c3, abin_seql]
        refine callK fw ?_; simp [tx, bmk_size, c3, abin_seql]
        refine WS_cond (t := false) (by simp [tx, bmk_size, c3, abin_seql]) (fun h => by cases h) (fun _ => ?_)
        refine WS_skip ?_; simp [tx, bmk_size, c3, abin_seql]
        refine WS_seq (WS_reg [] ?_); simp [tx, bmk_size, c3, abin_seql]
        refine callK p1 ?_; simp [tx, bmk_size, c3, abin_seql]
        refine WS_seq (WS_reg [] ?_); simp [tx, bmk_size, c3, abin_seql]
        refine callK p2 ?_; simp [tx, bmk_size, c3, abin_seql]
        refine WS_seq (WS_regD [] ?_); simp [tx, bmk_size, c3, abin_seql]
        refine callD s0 rfl ?_; simp [tx, bmk_size, c3, abin_seql]
        refine callD t1 rfl ?_; simp [tx, bmk_size, c3, abin_seql]
        refine callD t2 rfl ?_; simp [tx, bmk_size, c3, abin_seql]
        refine ⟨rfl, ?_⟩
        refine WS_ret ?_; simp [tx, bmk_size, c3, abin_seql]
      | some r =>
        rw [hp, qPR] at p1 p2
        have s0 := same3_Q (qP_len hp) (by omega)
        refine WS_seq (WS_reg [] ?_); simp [tx, bmk_size, c3, abin_seql]
        refine WS_seq (WS_reg [] ?_); simp [tx, bmk_size, c3, abin_seql]
        refine callK aw ?_; simp [tx, bmk_size, c3, abin_seql]
        refine WS_seq (WS_seq (WS_reg [] ?_)); simp [tx, bmk_size, c3, abin_seql]
        refine callK fw ?_; simp [tx, bmk_size, c3, abin_seql]
        refine WS_cond (t := false) (by simp [tx, bmk_size, c3, abin_seql]) (fun h => by cases h) (fun _ => ?_)
        refine WS_skip ?_; simp [tx, bmk_size, c3, abin_seql]
        refine WS_seq (WS_reg [] ?_); simp [tx, bmk_size, c3, abin_seql]
        refine callK p1 ?_; simp [tx, bmk_size, c3, abin_seql]
        refine WS_seq (WS_reg [] ?_); simp [tx, bmk_size, c3, abin_seql]
        refine callK p2 ?_; simp [tx, bmk_size, c3, abin_seql]
        refine WS_seq (WS_regD [] ?_); simp [tx, bmk_size, c3, abin_seql]
        refine callD s0 rfl ?_; simp [tx, bmk_size, c3, abin_seql]
        refine callD t1 rfl ?_; simp [tx, bmk_size, c3, abin_seql]
        refine callD t2 rfl ?_; simp [tx, bmk_size, c3, abin_seql]
        refine ⟨rfl, ?_⟩
        refine WS_ret ?_; simp [tx, bmk_size, c3, abin_seql]
end Go.Vw
namespace Go.Vw
open Go.Proofs

attribute [local simp] RunL_cons RunL_nil AOp_none AOp_some acK_v acK_call agK_tt agK_ff agK_tf agK_ft agK_tup agK_i aop aun St.ev St.heap St.put thenQ blockQ scopeQ upd_apply S0 argSlot lowV V.cells V.isAgg V.fits V.part partOk plains St.ret retSV svOf svsOf retQ retP retAll retOne uL_length uL_get? uL_get St.elems retH ownIdx ownAt
attribute [local simp] RunD_none RunD_some RunD_nil RunE_any acD_v acD_call agD_tt agD_ff agD_tf agD_ft agD_tup entsOf svref SO.opds SO.writes SO.makes callEnt pureSV pureOf RV.isOwn
attribute [local simp] abin_add abin_sub abin_mul abin_quo abin_rem abin_eql abin_neq abin_lss abin_leq abin_gtr abin_geq
attribute [local simp] uL_snoc uL_set uL_take uL_drop uL_append uL_replicate uL_nil
attribute [local simp] acK_callG acD_callG St.giv gsSV gvSV retEnts ownEnts SO.still
attribute [local simp] S0G argSlotG givSV retQG retPG retAllG retOneG HObj.width V.scalar trimQ V.byte
attribute [local simp] zv V.fits fillOk fillV Z_eq rv Q_eq
end Go.Vw
namespace Go.Vw
open Go.Proofs

attribute [local simp] RunL_cons RunL_nil AOp_none AOp_some acK_v acK_call agK_tt agK_ff agK_tf agK_ft agK_tup agK_i aop aun St.ev St.heap St.put thenQ blockQ scopeQ upd_apply S0 argSlot lowV V.cells V.isAgg V.fits V.part partOk plains St.ret retSV svOf svsOf retQ retP retAll retOne uL_length uL_get? uL_get St.elems retH ownIdx ownAt
attribute [local simp] RunD_none RunD_some RunD_nil RunE_any acD_v acD_call agD_tt agD_ff agD_tf agD_ft agD_tup entsOf svref SO.opds SO.writes SO.makes callEnt pureSV pureOf RV.isOwn
attribute [local simp] abin_add abin_sub abin_mul abin_quo abin_rem abin_eql abin_neq abin_lss abin_leq abin_gtr abin_geq
attribute [local simp] uL_snoc uL_set uL_take uL_drop uL_append uL_replicate uL_nil
attribute [local simp] acK_callG acD_callG St.giv gsSV gvSV retEnts ownEnts SO.still
attribute [local simp] S0G argSlotG givSV retQG retPG retAllG retOneG HObj.width V.scalar trimQ V.byte
attribute [local simp] zv V.fits fillOk fillV Z_eq
end Go.Vw
namespace Go.Vw
open Go.Proofs

attribute [local simp] RunL_cons RunL_nil AOp_none AOp_some acK_v acK_call agK_tt agK_ff agK_tf agK_ft agK_tup agK_i aop aun St.ev St.heap St.put thenQ blockQ scopeQ upd_apply S0 argSlot lowV V.cells V.isAgg V.fits V.part partOk plains St.ret retSV svOf svsOf retQ retP retAll retOne uL_length uL_get? uL_get St.elems retH ownIdx ownAt
attribute [local simp] RunD_none RunD_some RunD_nil RunE_any acD_v acD_call agD_tt agD_ff agD_tf agD_ft agD_tup entsOf svref SO.opds SO.writes SO.makes callEnt pureSV pureOf RV.isOwn
attribute [local simp] abin_add abin_sub abin_mul abin_quo abin_rem abin_eql abin_neq abin_lss abin_leq abin_gtr abin_geq
attribute [local simp] uL_snoc uL_set uL_take uL_drop uL_append uL_replicate uL_nil
attribute [local simp] acK_callG acD_callG St.giv gsSV gvSV retEnts ownEnts SO.still
attribute [local simp] S0G argSlotG givSV retQG retPG retAllG retOneG HObj.width V.scalar trimQ V.byte
attribute [local simp] zv V.fits fillOk fillV Z_eq rv Q_eq
end Go.Vw
namespace Go.Vw
open Go.Proofs

attribute [local simp] RunL_cons RunL_nil AOp_none AOp_some acK_v acK_call agK_tt agK_ff agK_tf agK_ft agK_tup agK_i aop aun St.ev St.heap St.put thenQ blockQ scopeQ upd_apply S0 argSlot lowV V.cells V.isAgg V.fits V.part partOk plains St.ret retSV svOf svsOf retQ retP retAll retOne uL_length uL_get? uL_get St.elems retH ownIdx ownAt
attribute [local simp] RunD_none RunD_some RunD_nil RunE_any acD_v acD_call agD_tt agD_ff agD_tf agD_ft agD_tup entsOf svref SO.opds SO.writes SO.makes callEnt pureSV pureOf RV.isOwn
attribute [local simp] abin_add abin_sub abin_mul abin_quo abin_rem abin_eql abin_neq abin_lss abin_leq abin_gtr abin_geq
attribute [local simp] uL_snoc uL_set uL_take uL_drop uL_append uL_replicate uL_nil
attribute [local simp] acK_callG acD_callG St.giv gsSV gvSV retEnts ownEnts SO.still
attribute [local simp] S0G argSlotG givSV retQG retPG retAllG retOneG HObj.width V.scalar trimQ V.byte
attribute [local simp] zv V.fits fillOk fillV Z_eq
attribute [local simp] rv Q_eq
end Go.Vw
namespace Go.Vw
open Go.Proofs

attribute [local simp] RunL_cons RunL_nil AOp_none AOp_some acK_v acK_call agK_tt agK_ff agK_tf agK_ft agK_tup agK_i aop aun St.ev St.heap St.put thenQ blockQ scopeQ upd_apply S0 argSlot lowV V.cells V.isAgg V.fits V.part partOk plains St.ret retSV svOf svsOf retQ retP retAll retOne uL_length uL_get? uL_get St.elems retH ownIdx ownAt
attribute [local simp] RunD_none RunD_some RunD_nil RunE_any acD_v acD_call agD_tt agD_ff agD_tf agD_ft agD_tup entsOf svref SO.opds SO.writes SO.makes callEnt pureSV pureOf RV.isOwn
attribute [local simp] abin_add abin_sub abin_mul abin_quo abin_rem abin_eql abin_neq abin_lss abin_leq abin_gtr abin_geq
attribute [local simp] uL_snoc uL_set uL_take uL_drop uL_append uL_replicate uL_nil
attribute [local simp] acK_callG acD_callG St.giv gsSV gvSV retEnts ownEnts SO.still
attribute [local simp] S0G argSlotG givSV retQG retPG retAllG retOneG HObj.width V.scalar trimQ V.byte
attribute [local simp] zv V.fits fillOk fillV Z_eq
attribute [local simp] rv Q_eq
end Go.Vw

