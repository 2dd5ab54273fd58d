/- nat.Div by two limbs and more. -/
import Derived.Test.YtphcdigmgbhjcaaF28
import Derived.Test.YtphcdigmgbhjcaaNB
set_option linter.unusedVariables false
set_option linter.unusedSimpArgs false
namespace Go.Vw
open Go.Proofs

theorem callDR {P : Program} {S : St} {f : FuncId} {args : List V} {K : St → List Ent → Prop} {dst : Option Nat} {i : Nat} {R : List RV → Prop} (h : Spec P f args R) (hex : ∃ r, R r) (k : ∀ r, R r → r.any RV.isOwn = false ∧ K (S.put dst (pureSV r)) (callEnt i)) : CallD P f args K S dst i :=
  ⟨_, h, hex, fun r hr => by rw [pureSV_ret (k r hr).1, retEnts_none (k r hr).1]; exact (k r hr).2⟩

attribute [local simp] RunL_cons RunL_nil AOp_none AOp_some acK_v acK_call agK_tt agK_ff agK_tf agK_ft agK_tup agK_i aop aun St.ev St.heap St.put thenQ blockQ upd_apply S0 argSlot lowV V.cells V.isAgg V.fits V.part partOk plains St.ret retSV svOf svsOf retQ retP retAll retOne uL_length uL_get? uL_get St.elems retH ownIdx ownAt
attribute [local simp] RunD_none RunD_some RunD_nil RunE_any acD_v acD_call agD_tt agD_ff agD_tf agD_ft agD_tup entsOf svref SO.opds SO.writes SO.makes callEnt pureSV pureOf RV.isOwn
attribute [local simp] abin_add abin_sub abin_mul abin_quo abin_rem abin_eql abin_neq abin_lss abin_leq abin_gtr abin_geq
attribute [local simp] uL_snoc uL_set uL_take uL_drop uL_append uL_replicate uL_nil
attribute [local simp] acK_callG acD_callG St.giv gsSV gvSV retEnts ownEnts SO.still
attribute [local simp] S0G argSlotG givSV retQG retPG retAllG retOneG HObj.width V.scalar trimQ V.byte
theorem lz_facts {x : Nat} (h0 : x ≠ 0) (hx : x < 18446744073709551616) : (x + 1) * 2 ^ (64 - Lib.bitLen x) ≤ 18446744073709551616 := by
  have h1 := (bitLen_spec x h0 hx).1
  have h2 := bitLen_le64 hx
  calc (x + 1) * 2 ^ (64 - Lib.bitLen x) ≤ 2 ^ Lib.bitLen x * 2 ^ (64 - Lib.bitLen x) := Nat.mul_le_mul_right _ h1
    _ = 2 ^ 64 := by rw [← Nat.pow_add]; congr 1; omega

def SC.snd : SC → SC
  | .seq _ b => b
  | x => x
def SC.fst : SC → SC
  | .seq a _ => a
  | .block _ b => b
  | .loop b => b
  | x => x

theorem cmp_le {a b : Nat} (h : a ≤ b) : ¬ 0 < Nm.cmpN a b := by
  unfold Nm.cmpN
  by_cases h1 : a < b
  · rw [if_pos h1]; omega
  · rw [if_neg h1, if_neg (by omega)]; omega

def divTail : SC := sc_nat_Div.snd.snd.snd.snd.snd.snd.snd.snd.snd

def divBody : SC := divTail.fst.snd.fst.fst
def divRound : SC := divBody.snd
def divInner : SC := divRound.fst.fst.snd.snd.fst

/-- The slots that the rounds keep. -/
def DB (n m s K : Nat) (v : List Nat) (S : St) : Prop := S.σ 9 = .p (.i .i64 (s : Int)) ∧ S.σ 10 = .p (.sl none (uL v)) ∧ S.σ 12 = .own 66 2 0 (m + 1) ∧ S.σ 14 = .p (.i .i64 ((n : Int) + 1)) ∧ S.σ 15 = .own 83 1 0 K

/-- What holds at a round's head. -/
def DI (n m s K V W0 : Nat) (v : List Nat) (k : Nat) (S : St) : Prop := DB n m s K v S ∧ S.σ 16 = .p (.i .i64 ((k : Int) - 1)) ∧ ∃ u q : List Nat, S.h 66 = ⟨2, some (.arr 30 none (uL u))⟩ ∧ S.h 83 = ⟨1, some (.arr 30 none (uL q))⟩ ∧
  u.length = m + 1 ∧ Nm.Dl 18446744073709551616 u ∧ q.length = K ∧ Nm.Dl 18446744073709551616 q ∧ (∀ p, p < k → q.getD p 0 = 0) ∧ W0 = V * Nm.val 18446744073709551616 q + Nm.val 18446744073709551616 u ∧ Nm.val 18446744073709551616 (u.drop k) < V

def DP (n m s K T V i : Nat) (v u q pt : List Nat) (S : St) : Prop := ∃ z : Nat, DB n m s K v S ∧ S.σ 16 = .p (.i .i64 (i : Int)) ∧ S.h 66 = ⟨2, some (.arr 30 none (uL u))⟩ ∧ S.h 83 = ⟨1, some (.arr 30 none (uL q))⟩ ∧ S.σ 18 = .p (.sl none (uL pt)) ∧ S.σ 17 = .p (.i .u64 (z : Int)) ∧ z < 18446744073709551616 ∧ z = T / V

/-- The guess is lowered as long as it is too great. -/
theorem ndiv_inner (n m s K V T i z0 : Nat) (v u q pt : List Nat) (S : St) (hn : 1 ≤ n) (hnm : n + 1 ≤ m) (hm36 : m ≤ 2 ^ 36) (hVpos : 0 < V) (v3 : V < 18446744073709551616 ^ (n + 1)) (vlen : v.length = n + 1) (dV : Nm.Dl 18446744073709551616 v) (vV : Nm.val 18446744073709551616 v = V)
    (plen : pt.length = n + 2) (pval : Nm.val 18446744073709551616 pt = T) (pdl : Nm.Dl 18446744073709551616 pt) (hz0 : z0 < 18446744073709551616) (hzT : T / V ≤ z0)
    (sb : DB n m s K v S) (s16 : S.σ 16 = .p (.i .i64 (i : Int))) (h66 : S.h 66 = ⟨2, some (.arr 30 none (uL u))⟩) (h83 : S.h 83 = ⟨1, some (.arr 30 none (uL q))⟩) (s18 : S.σ 18 = .p (.sl none (uL pt))) (s17 : S.σ 17 = .p (.i .u64 (z0 : Int))) :
    WS Try.prog 163 divInner (fun e S => e = .normal ∧ DP n m s K T V i v u q pt S) S := by
  unfold divInner divRound divBody divTail sc_nat_Div
  simp only [SC.snd, SC.fst]
  unfold DB at sb
  refine WS_block (WS_loop (fun S => ∃ z : Nat, (S.σ 9 = .p (.i .i64 (s : Int)) ∧ S.σ 10 = .p (.sl none (uL v)) ∧ S.σ 12 = .own 66 2 0 (m + 1) ∧ S.σ 14 = .p (.i .i64 ((n : Int) + 1)) ∧ S.σ 15 = .own 83 1 0 K) ∧ S.σ 16 = .p (.i .i64 (i : Int)) ∧
      S.h 66 = ⟨2, some (.arr 30 none (uL u))⟩ ∧ S.h 83 = ⟨1, some (.arr 30 none (uL q))⟩ ∧ S.σ 18 = .p (.sl none (uL pt)) ∧ S.σ 17 = .p (.i .u64 (z : Int)) ∧ z < 18446744073709551616 ∧ T / V ≤ z) (fun S => match S.σ 17 with | .p (.i _ k) => k.toNat | _ => 0)
      ⟨z0, sb, s16, h66, h83, s18, s17, hz0, hzT⟩ ?_)
  clear sb s16 h66 h83 hz0 hzT s17 s18 z0
  clear S
  rintro S ⟨z, ⟨s9, s10, s12, s14, s15⟩, s16, h66, h83, s18, s17, hz, hzT⟩
  have rw1 := row_spec v dV z hz (by omega)
  rw [vV, vlen] at rw1
  have pl := Nm.pad_length 18446744073709551616 (n + 1 + 1) (V * z)
  have pd := Nm.pad_lt (B := 18446744073709551616) (by omega) (n + 1 + 1) (V * z)
  have pvz := Nm.val_pad 18446744073709551616 (n + 1 + 1) (V * z)
  rw [Nat.mod_eq_of_lt (by rw [Nat.pow_succ]; exact Nat.mul_lt_mul_of_lt_of_le v3 (Nat.le_of_lt hz) (by omega))] at pvz
  obtain ⟨pz, hpz⟩ : ∃ y, y = Nm.pad 18446744073709551616 (n + 1 + 1) (V * z) := ⟨_, rfl⟩
  rw [← hpz] at rw1 pl pd pvz
  have cm := ncmp_spec pz pt pd pdl (by omega) (by omega)
  rw [pvz, pval] at cm
  refine WS_seq (WS_seq (WS_reg [] ?_))
  simp [s10, s17]
  refine callK rw1 ?_
  simp [s18]
  refine callK cm ?_
  by_cases hgt : T < V * z
  · have ec : Nm.cmpN (V * z) T = 1 := by unfold Nm.cmpN; rw [if_neg (Nat.not_lt.2 (Nat.le_of_lt hgt)), if_pos hgt]
    have hz1 : T / V < z := (Nat.div_lt_iff_lt_mul hVpos).2 (by rw [Nat.mul_comm]; exact hgt)
    have hz2 : 1 ≤ z := Nat.lt_of_le_of_lt (Nat.zero_le _) hz1
    have u1 := u64_sub z 1 hz2 hz
    have u1' : IntKind.u64.wrap ((z : Int) - 1) = ((z - 1 : Nat) : Int) := u1
    rw [ec]
    simp
    refine WS_cond (t := true) (by simp) (fun _ => ?_) (fun h => by cases h)
    refine WS_skip ?_
    simp
    refine WS_block (WS_reg [] ?_)
    simp [s9, s10, s12, s14, s15, s16, h66, h83, s18, s17, u1']
    exact ⟨⟨z - 1, rfl, by omega, Nat.le_sub_one_of_lt hz1⟩, Nat.sub_lt hz2 (by omega)⟩
  · have ec : ¬ 0 < Nm.cmpN (V * z) T := cmp_le (Nat.le_of_not_lt hgt)
    have hzV : V * z ≤ T := Nat.le_of_not_lt hgt
    have hzle : z ≤ T / V := (Nat.le_div_iff_mul_le hVpos).2 (by rw [Nat.mul_comm]; exact hzV)
    simp [ec]
    refine WS_cond (t := false) (by simp) (fun h => by cases h) (fun _ => ?_)
    refine WS_exit ?_
    simp
    exact ⟨z, ⟨s9, s10, s12, s14, s15⟩, s16, h66, h83, s18, s17, hz, Nat.le_antisymm hzle hzT⟩

set_option maxHeartbeats 1000000 in
theorem ndiv_round (n m s K V W0 i : Nat) (v : List Nat) (S : St) (hn : 1 ≤ n) (hnm : n + 1 ≤ m) (hm36 : m ≤ 2 ^ 36) (hK : K = m - n) (v2 : 18446744073709551616 ^ n ≤ V) (v3 : V < 18446744073709551616 ^ (n + 1))
    (vlen : v.length = n + 1) (dV : Nm.Dl 18446744073709551616 v) (vV : Nm.val 18446744073709551616 v = V) (htop : 0 < v.getD n 0) (hk : i + 1 ≤ K) (hI : DI n m s K V W0 v (i + 1) S) :
    WS Try.prog 163 divRound (fun e S => e = .normal ∧ DI n m s K V W0 v i S) S := by
  obtain ⟨⟨s9, s10, s12, s14, s15⟩, s16, u, q, h66, h83, ul', du, ql, dq, qz, hW, hlow⟩ := hI
  have hinner := fun T z0 u q pt S hT => ndiv_inner n m s K V T i z0 v u q pt S hn hnm hm36 hT v3 vlen dV vV
  unfold divInner at hinner
  unfold divRound divBody divTail sc_nat_Div at hinner ⊢
  simp only [SC.snd, SC.fst] at hinner ⊢
  have hVpos : 0 < V := Nat.lt_of_lt_of_le (Nat.pow_pos (by omega)) v2
  have tv := Nm.two_val (B := 18446744073709551616) (by omega) dV (show 2 ≤ n + 1 by omega) vlen
  have tV : 0 < V / 18446744073709551616 ^ (n - 1) := Nat.div_pos (Nat.le_trans (Nat.pow_le_pow_right (by omega) (by omega)) v2) (Nat.pow_pos (by omega))
  rw [vV] at tv
  have w1 := i64_nat n (by omega)
  have hi1 : ((i + 1 : Nat) : Int) - 1 = (i : Int) := by omega
  rw [hi1] at s16
  have high := Nm.part_high (B := 18446744073709551616) (n := n + 1) (by omega) du v3 hlow
  have pv := Nm.part_val (B := 18446744073709551616) (n := n + 1) (by omega) high
  have th := Nm.three_val (B := 18446744073709551616) (n := n + 1) (by omega) du (by omega) high
  obtain ⟨T, hT⟩ : ∃ z, z = Nm.val 18446744073709551616 (u.drop i) := ⟨_, rfl⟩
  rw [← hT] at pv th
  have hTx := Nm.val_drop 18446744073709551616 u i
  rw [← hT] at hTx
  have qlt := Nm.quot_lt (B := 18446744073709551616) hVpos (du.get (by omega) i) hTx hlow
  have qle := Nm.quot_le (T := T) (E := 18446744073709551616 ^ (n - 1)) (Nat.pow_pos (by omega)) tV
  have tv' : v.getD n 0 * 18446744073709551616 + v.getD (n - 1) 0 = V / 18446744073709551616 ^ (n - 1) := tv
  have th' : (u.getD (i + (n + 1)) 0 * 18446744073709551616 + u.getD (i + n) 0) * 18446744073709551616 + u.getD (i + n - 1) 0 = T / 18446744073709551616 ^ (n - 1) := th
  rw [← tv', ← th'] at qle
  have gs := guess_spec (u.getD (i + (n + 1)) 0) (u.getD (i + n) 0) (u.getD (i + n - 1) 0) (v.getD n 0) (v.getD (n - 1) 0) (du.get (by omega) _) (du.get (by omega) _) (du.get (by omega) _) (dV.get (by omega) _) (dV.get (by omega) _) htop
  obtain ⟨j2, hj2⟩ : ∃ z, z = i + (n + 1) := ⟨_, rfl⟩
  obtain ⟨j1, hj1⟩ : ∃ z, z = i + n := ⟨_, rfl⟩
  obtain ⟨j0, hj0⟩ : ∃ z, z = i + n - 1 := ⟨_, rfl⟩
  obtain ⟨n0, hn0⟩ : ∃ z, z = n - 1 := ⟨_, rfl⟩
  rw [← hj0, ← hj2, ← hj1, ← hn0] at gs qle
  have b2 : j2 < u.length := by omega
  have b1 : j1 < u.length := by omega
  have b0 : j0 < u.length := by omega
  have c1 : n < v.length := by omega
  have c0 : n0 < v.length := by omega
  have b2' : j2 < m + 1 := by omega
  have b1' : j1 < m + 1 := by omega
  have b0' : j0 < m + 1 := by omega
  have d1 : (j2 : Int) < (m : Int) + 1 := by omega
  have d2 : (j1 : Int) < (m : Int) + 1 := by omega
  have d3 : (j0 : Int) < (m : Int) + 1 := by omega
  have c1' : (n : Int) < (n : Int) + 1 := by omega
  have c0'' : n0 < n + 1 := by omega
  have c0' : (n0 : Int) < (n : Int) + 1 := by omega
  have x2 : IntKind.i64.wrap ((i : Int) + ((n : Int) + 1)) = (j2 : Int) := by rw [i64_int _ (by omega) (by omega)]; omega
  have x1 : IntKind.i64.wrap ((j2 : Int) - 1) = (j1 : Int) := by rw [i64_int _ (by omega) (by omega)]; omega
  have x0 : IntKind.i64.wrap ((j2 : Int) - 2) = (j0 : Int) := by rw [i64_int _ (by omega) (by omega)]; omega
  have y0 : IntKind.i64.wrap ((n : Int) + 1 - 2) = (n0 : Int) := by rw [i64_int _ (by omega) (by omega)]; omega
  obtain ⟨p2, hp2'⟩ : ∃ z, z = u.getD j2 0 := ⟨_, rfl⟩
  obtain ⟨p1', hp1'⟩ : ∃ z, z = u.getD j1 0 := ⟨_, rfl⟩
  obtain ⟨p0, hp0'⟩ : ∃ z, z = u.getD j0 0 := ⟨_, rfl⟩
  obtain ⟨r1, hr1'⟩ : ∃ z, z = v.getD n 0 := ⟨_, rfl⟩
  obtain ⟨r0, hr0'⟩ : ∃ z, z = v.getD n0 0 := ⟨_, rfl⟩
  rw [← hp2', ← hp1', ← hp0', ← hr1', ← hr0'] at gs qle
  have g2 : u[j2] = p2 := by rw [hp2']; simp [List.getD, b2]
  have g1 : u[j1] = p1' := by rw [hp1']; simp [List.getD, b1]
  have g0 : u[j0] = p0 := by rw [hp0']; simp [List.getD, b0]
  have f1 : v[n] = r1 := by rw [hr1']; simp [List.getD, c1]
  have f0 : v[n0] = r0 := by rw [hr0']; simp [List.getD, c0]
  refine WS_seq (WS_block (WS_seq (WS_regD [] ?_)))
  simp [s10, s12, s14, s16, h66, x2, x1, x0, y0, w1, b2, b1, b0, c1, c0, b2', b1', b0', d1, d2, d3, c1', c0', c0'', g2, g1, g0, f1, f0, vlen, ul']
  refine callDR gs ⟨_, 18446744073709551615, rfl, by omega, fun t h _ => by omega⟩ ?_
  rintro _ ⟨z0, rfl, hz0, hz1⟩
  refine ⟨rfl, ?_⟩
  simp
  refine ⟨rfl, ?_⟩
  -- the part of the dividend
  have y2 : IntKind.i64.wrap ((j2 : Int) + 1) = ((j2 + 1 : Nat) : Int) := i64_succ j2 (by omega)
  have plen : ((u.drop i).take (j2 + 1 - i)).length = n + 2 := by simp; omega
  have pval : Nm.val 18446744073709551616 ((u.drop i).take (j2 + 1 - i)) = T := by
    rw [← pv, ← List.drop_take, show i + (n + 1) + 1 = j2 + 1 by omega]
  have pdl : Nm.Dl 18446744073709551616 ((u.drop i).take (j2 + 1 - i)) := (du.drop i).take _
  obtain ⟨pt, hpt⟩ : ∃ z, z = (u.drop i).take (j2 + 1 - i) := ⟨_, rfl⟩
  rw [← hpt] at plen pval pdl
  have b3 : ((j2 + 1 : Nat) : Int) ≤ (m : Int) + 1 := by omega
  have b4 : (i : Int) ≤ ((j2 + 1 : Nat) : Int) := by omega
  have b5 : i + (j2 + 1 - i) ≤ m + 1 := by omega
  have b6 : j2 + 1 - i = n + 2 := by omega
  refine WS_seq (WS_reg [122, 130] ?_)
  simp [s12, s14, s16, h66, x2, y2]
  refine ⟨⟨by omega, by omega⟩, ⟨by omega, by omega, by omega⟩, ?_⟩
  have hzT : T / V ≤ z0 := hz1 _ qlt qle
  refine WS_cut _ (hinner T z0 u q pt _ hVpos plen pval pdl hz0 hzT ⟨by simp [s9], by simp [s10], by simp [s12], by simp [s14], by simp [s15]⟩ (by simp [s16]) (by simp [h66]) (by simp [h83]) (by simp [hpt]) (by simp)) ?_
  clear s9 s10 s12 s14 s15 s16 h66 h83 hz0 hz1 hzT z0 gs hinner
  clear S
  rintro S ⟨z, ⟨s9, s10, s12, s14, s15⟩, s16, h66, h83, s18, s17, hz, hzz⟩
  have rw1 := row_spec v dV z hz (by omega)
  rw [vV, vlen] at rw1
  have pl := Nm.pad_length 18446744073709551616 (n + 1 + 1) (V * z)
  have pd := Nm.pad_lt (B := 18446744073709551616) (by omega) (n + 1 + 1) (V * z)
  have pvz := Nm.val_pad 18446744073709551616 (n + 1 + 1) (V * z)
  rw [Nat.mod_eq_of_lt (by rw [Nat.pow_succ]; exact Nat.mul_lt_mul_of_lt_of_le v3 (Nat.le_of_lt hz) (by omega))] at pvz
  obtain ⟨pz, hpz⟩ : ∃ y, y = Nm.pad 18446744073709551616 (n + 1 + 1) (V * z) := ⟨_, rfl⟩
  rw [← hpz] at rw1 pl pd pvz
  have cm := ncmp_spec pz pt pd pdl (by omega) (by omega)
  rw [pvz, pval] at cm
  have hdm := Nat.div_add_mod T V
  have hml := Nat.mod_lt T hVpos
  have hzV : V * z ≤ T := by rw [hzz]; exact Nat.mul_div_le T V
  have hTz : T - V * z = T % V := by rw [hzz]; exact Nat.sub_eq_of_eq_add (by rw [Nat.add_comm]; exact hdm.symm)
  have iK : i < K := by omega
  have iq : i < q.length := by omega
  refine WS_seq (WS_reg [] ?_)
  simp [s15, s16, s17, h83, iK, iq]
  have lo := less_own pt pz pdl pd (by omega) (by omega) (by rw [pvz, pval]; exact hzV)
  rw [pvz, pval, hTz] at lo
  have hfit : T % V < 18446744073709551616 ^ (n + 2) := Nat.lt_of_lt_of_le hml (Nat.le_trans (Nat.le_of_lt v3) (Nat.pow_le_pow_right (by omega) (by omega)))
  obtain ⟨fl1, fl2, fl3⟩ := Nm.fill_val (B := 18446744073709551616) (by omega) hfit
  have fl0 := Nm.dig_length_le (B := 18446744073709551616) (by omega) hfit
  obtain ⟨R, hR⟩ : ∃ y, y = Nm.dig 18446744073709551616 (T % V) := ⟨_, rfl⟩
  rw [← hR] at lo fl1 fl2 fl3 fl0
  obtain ⟨n2, hn2⟩ : ∃ y, y = n + 2 := ⟨_, rfl⟩
  have y3 : IntKind.i64.wrap ((n : Int) + 1 + 1) = (n2 : Int) := by rw [i64_int _ (by omega) (by omega)]; omega
  refine WS_regD [] ?_
  simp [s10, s12, s14, s16, s17, s18, h66, y3]
  refine ⟨by omega, ?_⟩
  refine callD rw1 rfl ?_
  simp
  refine callDO lo ?_
  have hmin : min n2 (m + 1 - i) = n2 := by omega
  simp [s14, y3, h66, hmin]
  refine ⟨⟨by omega, by omega⟩, by omega, by omega, rfl, ?_⟩
  have y4 : IntKind.i64.wrap ((i : Int) - 1) = (i : Int) - 1 := i64_int _ (by omega) (by omega)
  obtain ⟨L, hL⟩ : ∃ y, y = (R ++ List.replicate n2 0).take n2 := ⟨_, rfl⟩
  rw [← hn2, ← hL] at fl1 fl2 fl3
  obtain ⟨rv1, rv2⟩ := Nm.round_val (B := 18446744073709551616) (V := V) (n := n + 1) (k := i) (x := z) (T := T) (L := L) (by omega) high hT (by omega) (by rw [fl2, hTz]) hzV
  rw [show i + (n + 1) + 1 = i + n2 by omega] at rv1 rv2
  refine WS_reg [] ?_
  simp [s9, s10, s12, s14, s15, s16, h66, h83, y4]
  have hLL : (((R ++ List.replicate n2 0).take n2).take n2) = L := by rw [List.take_take, Nat.min_self, hL]
  rw [hLL, ← List.append_assoc]
  have hset := Nm.set_zero (B := 18446744073709551616) (c := z) iq (qz i (by omega))
  have hl2 : (u.take i ++ L ++ u.drop (i + n2)).length = m + 1 := by simp; omega
  refine ⟨⟨s9, s10, s12, s14, s15⟩, rfl, _, _, rfl, rfl, hl2, ((du.take i).append fl3).append (du.drop _), by simp [ql], dq.set hz i, fun p hp => ?_, ?_, ?_⟩
  · have hz := qz p (by omega)
    have := Nm.getD_set_ne (l := q) (show i ≠ p by omega) z
    rw [hz] at this
    simpa [List.getD] using this
  · rw [hW, hset, ← rv1, Nat.mul_add, Nat.mul_left_comm V]
    omega
  · rw [rv2, hTz]; exact hml

theorem ndiv_loop (n m s K V W0 A D : Nat) (v uu : List Nat) (S : St) (hn : 1 ≤ n) (hnm : n + 1 ≤ m) (hm36 : m ≤ 2 ^ 36) (hs63 : s ≤ 64) (hK : K = m - n) (hV : V = D * 2 ^ s) (hW0 : W0 = A * 2 ^ s) (v2 : 18446744073709551616 ^ n ≤ V) (v3 : V < 18446744073709551616 ^ (n + 1))
    (first : W0 / 18446744073709551616 ^ (m - (n + 1) + 1) < V) (vlen : v.length = n + 1) (dV : Nm.Dl 18446744073709551616 v) (vV : Nm.val 18446744073709551616 v = V) (htop : 0 < v.getD n 0)
    (uul : uu.length = m + 1) (duu : Nm.Dl 18446744073709551616 uu) (vuu : Nm.val 18446744073709551616 uu = W0)
    (s9 : S.σ 9 = .p (.i .i64 (s : Int))) (s10 : S.σ 10 = .p (.sl none (uL v))) (s12 : S.σ 12 = .own 66 2 0 (m + 1)) (s14 : S.σ 14 = .p (.i .i64 ((n : Int) + 1))) (s15 : S.σ 15 = .own 83 1 0 K)
    (h66 : S.h 66 = ⟨2, some (.arr 30 none (uL uu))⟩) (h83 : S.h 83 = ⟨1, some (.arr 30 none (uL (List.replicate K 0)))⟩) :
    WS Try.prog 163 divTail (retQ [.tmp 4, .tmp 5, .tmp 6] [] (· = [.pure (U (Nm.dig 18446744073709551616 (A / D))), .pure (U (Nm.dig 18446744073709551616 (A % D))), .pure (.i .i64 0)])) S := by
  have hround := fun i S => ndiv_round n m s K V W0 i v S hn hnm hm36 hK v2 v3 vlen dV vV htop
  unfold divRound divBody at hround
  unfold divTail sc_nat_Div at hround ⊢
  simp only [SC.snd, SC.fst] at hround ⊢
  have hVpos : 0 < V := Nat.lt_of_lt_of_le (Nat.pow_pos (by omega)) v2
  have w6 : IntKind.i64.wrap ((K : Int) - 1) = (K : Int) - 1 := i64_int _ (by omega) (by omega)
  refine WS_seq (WS_seq (WS_reg [] ?_))
  simp [s9, s10, s12, s14, s15, h66, h83, w6]
  refine WS_block (WS_loop (fun S => ∃ k : Nat, k ≤ K ∧ DI n m s K V W0 v k S) (fun S => match S.σ 16 with | .p (.i _ k) => (k + 1).toNat | _ => 0)
    ⟨K, Nat.le_refl _, ⟨by simp [s9], by simp [s10], by simp [s12], by simp [s14], by simp [s15]⟩, by simp, uu, List.replicate K 0, by simp [h66], by simp [h83], uul, duu, by simp, Nm.Dl.replicate (by omega) _, fun p _ => by simp [List.getD, List.getElem?_replicate]; split <;> simp, by rw [Nm.val_replicate, vuu]; simp, ?_⟩ ?_)
  · rw [Nm.val_drop_div (by omega) duu, vuu, hK, show m - n = m - (n + 1) + 1 by omega]; exact first
  clear s9 s10 s12 s14 s15 h66 h83
  clear S
  rintro S ⟨k, hk, hI⟩
  have s16 := hI.2.1
  refine WS_seq (WS_seq (WS_reg [] ?_))
  simp [s16]
  by_cases hp : 0 < k
  · obtain ⟨i, rfl⟩ : ∃ i, k = i + 1 := ⟨k - 1, by omega⟩
    refine WS_cond (t := true) (by simp; omega) (fun _ => ?_) (fun h => by cases h)
    refine WS_skip ?_
    simp
    refine (hround i _ hk ?_).mono ?_
    · obtain ⟨⟨s9, s10, s12, s14, s15⟩, s16, u, q, h66, h83, r⟩ := hI
      exact ⟨⟨by simp [s9], by simp [s10], by simp [s12], by simp [s14], by simp [s15]⟩, by simp [s16], u, q, by simp [h66], by simp [h83], r⟩
    · rintro e S' ⟨rfl, hS'⟩
      have := hS'.2.1
      simp [this]
      exact ⟨i, by omega, hS'⟩
  · have hk0 : k = 0 := by omega
    subst hk0
    refine WS_cond (t := false) (by simp) (fun h => by cases h) (fun _ => ?_)
    refine WS_exit ?_
    simp
    obtain ⟨⟨s9, s10, s12, s14, s15⟩, s16, u, q, h66, h83, ul', du, ql, dq, qz, hW, hlow⟩ := hI
    rw [List.drop_zero] at hlow
    obtain ⟨e1, e2⟩ := Nm.div_end hW hlow hW0 hV (Nat.pow_pos (by omega))
    have pq := plain_spec q (by omega)
    rw [← Nm.dig_val (by omega) dq, e1] at pq
    have sr := nshr_spec u du (by omega) (s : Int) (by omega)
    rw [Int.toNat_natCast, e2] at sr
    obtain ⟨Q, hQ⟩ : ∃ y, y = Nm.dig 18446744073709551616 (A / D) := ⟨_, rfl⟩
    obtain ⟨R, hR⟩ : ∃ y, y = Nm.dig 18446744073709551616 (A % D) := ⟨_, rfl⟩
    rw [← hQ] at pq ⊢
    rw [← hR] at sr ⊢
    refine WS_frz 83 15 none ?_
    simp [frzQ, s15, h83, ql, take_all' ql]
    refine WS_frz 66 12 none ?_
    simp [frzQ, s12, h66, ul', take_all' ul']
    refine WS_seq (WS_reg [] ?_)
    simp [s9]
    refine callK pq ?_
    simp [s9]
    refine callK sr ?_
    simp
    refine WS_ret ?_
    simp

theorem ndiv_gen (a b : List Nat) (ha : Nm.Dl 18446744073709551616 a) (hb : Nm.Dl 18446744073709551616 b) (la : a.length ≤ 2 ^ 36) (lb : b.length ≤ 2 ^ 36) (h1 : 18446744073709551616 ≤ Nm.val 18446744073709551616 b) (hle : Nm.val 18446744073709551616 b ≤ Nm.val 18446744073709551616 a) :
    Spec Try.prog f_nat_Div [U a, U b] (· = [.pure (U (Nm.dig 18446744073709551616 (Nm.val 18446744073709551616 a / Nm.val 18446744073709551616 b))), .pure (U (Nm.dig 18446744073709551616 (Nm.val 18446744073709551616 a % Nm.val 18446744073709551616 b))), .pure (.i .i64 0)]) := by
  refine spec_at Try.func54 ok_nat_Div [] rfl (by simp) ?_
  unfold sc_nat_Div
  have p1 := plain_spec a (by omega)
  have p2 := plain_spec b (by omega)
  have l1 := Nm.trim_length_le a
  have l2 := Nm.trim_length_le b
  rw [← Nm.dig_val (by omega) ha] at p1 l1
  rw [← Nm.dig_val (by omega) hb] at p2 l2
  obtain ⟨A, hA⟩ : ∃ v, v = Nm.val 18446744073709551616 a := ⟨_, rfl⟩
  obtain ⟨D, hD⟩ : ∃ v, v = Nm.val 18446744073709551616 b := ⟨_, rfl⟩
  rw [← hA] at p1 l1 hle ⊢
  rw [← hD] at p2 l2 h1 hle ⊢
  clear hA hD ha hb
  -- the divisor's limbs
  obtain ⟨n, n1, n2, n3, n4, n5⟩ := Nm.top_facts (B := 18446744073709551616) (by omega) (N := D) (by omega)
  obtain ⟨x, hx⟩ : ∃ z, z = (Nm.dig 18446744073709551616 D).getD n 0 := ⟨_, rfl⟩
  rw [← hx] at n2 n3 n4 n5
  have hn : 1 ≤ n := by
    rcases Nat.eq_zero_or_pos n with h | h
    · subst h; simp at n5; omega
    · exact h
  have hlz := lz_facts n2 n3
  have bl64 := bitLen_le64 n3
  have lz := lz_spec x n3
  obtain ⟨s, hs⟩ : ∃ z, z = 64 - Lib.bitLen x := ⟨_, rfl⟩
  rw [← hs] at hlz lz
  have hs63 : s ≤ 64 := by omega
  obtain ⟨v1, v2, v3⟩ := Nm.norm_facts (B := 18446744073709551616) (by omega) n4 n5 n2 hlz
  have hp2 : 0 < 2 ^ s := Nat.pow_pos (by omega)
  have dD := Nm.dig_lt (B := 18446744073709551616) (by omega) D
  have vD := Nm.val_dig (B := 18446744073709551616) (by omega) D
  have dA := Nm.dig_lt (B := 18446744073709551616) (by omega) A
  have vA := Nm.val_dig (B := 18446744073709551616) (by omega) A
  have hAm := Nm.val_lt dA
  have hmono := Nm.dig_length_mono (B := 18446744073709551616) (by omega) hle
  rw [vA] at hAm
  have cm := ncmp_spec (Nm.dig 18446744073709551616 A) (Nm.dig 18446744073709551616 D) dA dD (by omega) (by omega)
  rw [vA, vD] at cm
  have sv := nshl_spec (Nm.dig 18446744073709551616 D) dD (by omega) (s : Int)
  rw [if_neg (by omega), vD] at sv
  have su := nshl_own (Nm.dig 18446744073709551616 A) dA (by omega) s (by omega)
  rw [vA] at su
  rw [Int.toNat_natCast] at sv
  obtain ⟨m, hm⟩ : ∃ z, z = (Nm.dig 18446744073709551616 A).length := ⟨_, rfl⟩
  rw [← hm] at hAm l1
  have hnm : n + 1 ≤ m := by omega
  obtain ⟨V, hV⟩ : ∃ z, z = D * 2 ^ s := ⟨_, rfl⟩
  obtain ⟨W0, hW0⟩ : ∃ z, z = A * 2 ^ s := ⟨_, rfl⟩
  rw [← hV] at v1 v2 v3 sv
  rw [← hW0] at su
  have hVpos : 0 < V := Nat.lt_of_lt_of_le (Nat.pow_pos (by omega)) v2
  have first := Nm.first_high (B := 18446744073709551616) (by omega) hAm hW0 (show 1 ≤ n + 1 by omega) hnm (by simpa using v1)
  have ulen : (Nm.dig 18446744073709551616 W0).length ≤ m + 1 := by
    refine Nm.dig_length_le (by omega) ?_
    rw [Nat.pow_succ, hW0]
    exact Nat.mul_lt_mul_of_lt_of_le hAm (Nat.le_trans (Nat.le_mul_of_pos_left _ (by omega)) hlz) (by omega)
  have vlen := Nm.dig_len (B := 18446744073709551616) (by omega) v2 v3
  have dV := Nm.dig_lt (B := 18446744073709551616) (by omega) V
  have vV := Nm.val_dig (B := 18446744073709551616) (by omega) V
  have tv := Nm.two_val (B := 18446744073709551616) (by omega) dV (show 2 ≤ n + 1 by omega) vlen
  have tV : 0 < V / 18446744073709551616 ^ (n - 1) := Nat.div_pos (Nat.le_trans (Nat.pow_le_pow_right (by omega) (by omega)) v2) (Nat.pow_pos (by omega))
  rw [vV] at tv
  have htop : 0 < (Nm.dig 18446744073709551616 V).getD n 0 := by
    have := Nm.getD_val (B := 18446744073709551616) (by omega) dV n
    rw [this, vV, Nat.mod_eq_of_lt (by rw [Nat.div_lt_iff_lt_mul (Nat.pow_pos (by omega)), Nat.mul_comm, ← Nat.pow_succ]; exact v3)]
    exact Nat.div_pos v2 (Nat.pow_pos (by omega))
  obtain ⟨v, hv⟩ : ∃ z, z = Nm.dig 18446744073709551616 V := ⟨_, rfl⟩
  rw [← hv] at sv vlen dV vV tv htop
  obtain ⟨u0, hu0⟩ : ∃ z, z = Nm.dig 18446744073709551616 W0 := ⟨_, rfl⟩
  have du0 : Nm.Dl 18446744073709551616 u0 := by rw [hu0]; exact Nm.dig_lt (by omega) _
  have vu0 : Nm.val 18446744073709551616 u0 = W0 := by rw [hu0]; exact Nm.val_dig (by omega) _
  rw [← hu0] at su ulen
  obtain ⟨La, hLa⟩ : ∃ z, z = Nm.dig 18446744073709551616 A := ⟨_, rfl⟩
  obtain ⟨Lb, hLb⟩ : ∃ z, z = Nm.dig 18446744073709551616 D := ⟨_, rfl⟩
  rw [← hLa] at p1 hm cm su
  rw [← hLb] at p2 n1 cm sv hx
  have hx' : Lb[n]? = some x := by
    have hlt : n < Lb.length := by omega
    rw [hx]; simp [List.getD, hlt]
  have hxg : Lb[n]'(by omega) = x := by
    rw [hx]; simp [List.getD, show n < Lb.length by omega]
  refine WS_seq (WS_reg [] ?_)
  simp
  refine WS_seq (WS_reg [] ?_)
  simp
  refine callK p1 ?_
  simp
  refine callK p2 ?_
  simp
  have e1 : ((n : Int) + 1 == 1) = false := by simp; omega
  have e0' : ((n : Int) + 1 == 0) = false := by simp; omega
  refine WS_seq (WS_block (WS_seq (WS_reg [] ?_)))
  simp [U, n1, e0']
  refine WS_cond (t := false) (by simp) (fun h => by cases h) (fun _ => ?_)
  refine WS_seq (WS_reg [] ?_)
  simp
  refine callK cm ?_
  have ecm : ¬ Nm.cmpN A D < 0 := by unfold Nm.cmpN; rw [if_neg (by omega)]; split <;> omega
  simp [ecm]
  refine WS_cond (t := false) (by simp) (fun h => by cases h) (fun _ => ?_)
  refine WS_seq (WS_reg [] ?_)
  simp [n1, e1]
  refine WS_cond (t := false) (by simp) (fun h => by cases h) (fun _ => ?_)
  refine WS_skip ?_
  simp
  have w1 := i64_nat n (by omega)
  refine WS_seq (WS_reg [] ?_)
  simp [n1, w1, hxg]
  refine ⟨by omega, ?_⟩
  refine callK lz ?_
  simp
  refine WS_seq (WS_reg [] ?_)
  simp
  refine callK sv ?_
  simp
  refine WS_seq (WS_reg [] ?_)
  simp
  refine callK su ?_
  simp
  refine WS_seq (WS_reg [] ?_)
  simp [U, vlen]
  have w2 : IntKind.i64.wrap ((m : Int) + 1) = (m : Int) + 1 := i64_int _ (by omega) (by omega)
  have w3 : IntKind.i64.wrap ((m : Int) + 1 - u0.length) = ((m + 1 - u0.length : Nat) : Int) := by rw [i64_int _ (by omega) (by omega)]; omega
  refine WS_seq (WS_reg [] ?_)
  simp [← hm, w2, w3]
  refine ⟨by omega, ?_⟩
  have ul : u0.length + (m + 1 - u0.length) = m + 1 := by omega
  have w4 : IntKind.i64.wrap ((m : Int) + 1 - ((n : Int) + 1)) = ((m - n : Nat) : Int) := by rw [i64_int _ (by omega) (by omega)]; omega
  obtain ⟨uu, huu⟩ : ∃ z, z = u0 ++ List.replicate (m + 1 - u0.length) 0 := ⟨_, rfl⟩
  have uul : uu.length = m + 1 := by rw [huu]; simp; omega
  have duu : Nm.Dl 18446744073709551616 uu := by rw [huu]; exact du0.append (Nm.Dl.replicate (by omega) _)
  have vuu : Nm.val 18446744073709551616 uu = W0 := by rw [huu, Nm.val_append, Nm.val_replicate, vu0]; simp
  obtain ⟨K, hK⟩ : ∃ z, z = m - n := ⟨_, rfl⟩
  rw [← hK] at w4
  have w6 : IntKind.i64.wrap ((K : Int) - 1) = (K : Int) - 1 := i64_int _ (by omega) (by omega)
  refine WS_seq (WS_reg [] ?_)
  simp [ul, w4, ← huu]
  refine ⟨by omega, ?_⟩
  exact ndiv_loop n m s K V W0 A D v uu _ hn hnm (by omega) hs63 hK hV hW0 v2 v3 first vlen dV vV htop uul duu vuu (by simp) (by simp) (by simp) (by simp) (by simp) (by simp) (by simp)
end Go.Vw
