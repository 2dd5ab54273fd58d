/- Polynomials over the integers. -/
import Derived.Test.YtelkndcchjhgcaaGreatME
import Derived.Test.YtelkndcchjhgcaaGreatMD
import Derived.Test.YtelkndcchjhgcaaGreatPD
import Derived.Test.YtelkndcchjhgcaaGreatS6
import Derived.Test.YtelkndcchjhgcaaGreatPG
import Derived.Test.YtelkndcchjhgcaaGreatMG
import Derived.Test.YtelkndcchjhgcaaGreatPF
import Derived.Test.YtelkndcchjhgcaaGreatS7
set_option linter.unusedVariables false
set_option linter.unusedSimpArgs false
namespace Go.Vw
open Go.Proofs Go.Py

structure PW (k : Nat) (M : List (Bool × List Nat)) : Prop where
  len : M.length ≤ k
  each : ∀ p ∈ M, ZW k p.2
theorem polys_eq (M : List (Bool × List Nat)) : ((M.map fun p => (p.1, p.2.map fun x : Nat => (x : Int))).map fun p => V.agg [.b p.1, .sl none (p.2.map fun z => V.i .u64 z)]) = zL M := by
  simp [zL, zv, uL]

/-- The integers of a row. -/
def piL (M : List (Bool × List Nat)) : List Int := M.map fun p => zi p.1 p.2
/-- A row of integers as canonical values. -/
def PZ (l : List Int) : List V := l.map Z
theorem PZ_length (l : List Int) : (PZ l).length = l.length := by simp [PZ]
/-- Each coefficient within so many limbs. -/
def PL (k : Nat) (l : List Int) : Prop := ∀ i, zlen (cf l i) ≤ k
theorem PL.mono {k m : Nat} {l : List Int} (h : PL k l) (hk : k ≤ m) : PL m l := fun i => Nat.le_trans (h i) hk
theorem PL.eqp {k : Nat} {a b : List Int} (h : PL k a) (e : Eqp a b) : PL k b := fun i => by rw [← e i]; exact h i
theorem pl_tr {k : Nat} {a : List Int} (h : PL k a) : PL k (tr a) := h.eqp (cf_tr a).symm
theorem pl_add {k : Nat} {a b : List Int} (h : PL k a) (g : PL k b) : PL (k + 1) (addL a b) := fun i => by
  rw [cf_addL]
  have := zlen_add (cf a i) (cf b i)
  have := h i
  have := g i
  omega
theorem pl_sc {k j : Nat} {a : List Int} {c : Int} (h : PL k a) (hc : zlen c ≤ j) : PL (k + j) (scL c a) := fun i => by
  rw [cf_scL]
  have := zlen_mul c (cf a i)
  have := h i
  omega
theorem pl_mul {k j : Nat} {b : List Int} (g : PL j b) : ∀ {a : List Int}, PL k a → PL (k + j + a.length) (mulL a b)
  | [], _ => fun i => by rw [mulL, cf_nil, zlen_zero]; omega
  | x :: a, h => fun i => by
    have hx : zlen x ≤ k := by have := h 0; rwa [cf_zero] at this
    have ha : PL k a := fun i => by have := h (i + 1); rwa [cf_succ] at this
    have ih := pl_mul g ha
    cases i with
    | zero =>
      rw [cf_mulL_zero]
      have := zlen_mul x (cf b 0)
      have := g 0
      omega
    | succ i =>
      rw [cf_mulL_succ]
      have h1 := zlen_mul x (cf b (i + 1))
      have h2 := g (i + 1)
      have h3 := ih i
      have h4 := zlen_add (x * cf b (i + 1)) (cf (mulL a b) i)
      rw [List.length_cons]
      omega

/-- A row of values that reads as these integers, each of at most k limbs. -/
structure IsP (k : Nat) (vs : List V) (l : List Int) : Prop where
  len : vs.length = l.length
  get : ∀ i (h : i < vs.length), IsZ k (vs[i]) (cf l i)
theorem IsP.mono {k m : Nat} {vs : List V} {l : List Int} (h : IsP k vs l) (hk : k ≤ m) : IsP m vs l := ⟨h.len, fun i hi => (h.get i hi).mono hk⟩
theorem isP_zL {k : Nat} {M : List (Bool × List Nat)} (h : ∀ p ∈ M, ZW k p.2) : IsP k (zL M) (piL M) := by
  refine ⟨by simp [zL, piL], fun i hi => ?_⟩
  have hi' : i < M.length := by simpa [zL] using hi
  rw [cf_lt (by simpa [piL] using hi')]
  simp only [zL, piL, List.getElem_map]
  exact isZ_zv (h _ (List.getElem_mem _))
theorem isP_PZ {k : Nat} {l : List Int} (h : PL k l) : IsP k (PZ l) l := by
  refine ⟨by simp [PZ], fun i hi => ?_⟩
  have hi' : i < l.length := by simpa [PZ] using hi
  have := h i
  rw [cf_lt hi'] at this ⊢
  simp only [PZ, List.getElem_map]
  exact isZ_Z this
theorem IsP.pl {k : Nat} {vs : List V} {l : List Int} (h : IsP k vs l) : PL k l := fun i => by
  by_cases hi : i < vs.length
  · exact (h.get i hi).zlen
  · rw [cf_ge (by have := h.len; omega), zlen_zero]; omega
theorem IsP.take {k : Nat} {vs : List V} {l : List Int} (h : IsP k vs l) (n : Nat) : IsP k (vs.take n) (l.take n) := by
  refine ⟨by have := h.len; simp [this], fun i hi => ?_⟩
  simp only [List.length_take] at hi
  rw [cf_take, if_pos (by omega), List.getElem_take]
  exact h.get i (by omega)
/-- An element, as the pair that it is. -/
theorem IsP.cell {k : Nat} {vs : List V} {l : List Int} (h : IsP k vs l) (i : Nat) (hi : i < vs.length) : ∃ n d, vs[i] = .agg [.b n, .sl none (uL d)] ∧ ZW k d ∧ zi n d = cf l i := by
  obtain ⟨n, d, e, hz, hx⟩ := h.get i hi
  exact ⟨n, d, e, hz, hx⟩
theorem PZ_get (l : List Int) (i : Nat) (h : i < (PZ l).length) : (PZ l)[i] = .agg [.b (zn (cf l i)), .sl none (uL (zl (cf l i)))] := by
  have hi' : i < l.length := by simpa [PZ] using h
  rw [cf_lt hi']
  simp only [PZ, List.getElem_map]
  rfl
theorem PZ_set (l : List Int) (i : Nat) (x : Int) : (PZ l).set i (Z x) = PZ (l.set i x) := by simp [PZ, List.map_set]
theorem PZ_replicate (n : Nat) : List.replicate n (V.agg [.b false, .sl none []]) = PZ (List.replicate n 0) := by simp [PZ, Z_eq, zn_false, zl_nil, uL]
theorem PZ_snoc (l : List Int) (x : Int) : PZ l ++ [Z x] = PZ (l ++ [x]) := by simp [PZ]
end Go.Vw
set_option linter.unusedVariables false
set_option linter.unusedSimpArgs false
namespace Go.Vw
open Go.Proofs Go.Py

theorem range_cf (l : List Int) (m : Nat) (hm : m ≤ l.length) : (List.range m).map (cf l) = l.take m := by
  refine ext_cf (by simp; omega) fun i => ?_
  rw [cf_range, cf_take]

theorem range_fill (g : Nat → V) (z : V) {k n : Nat} (h : k < n) : ((List.range k).map g ++ List.replicate (n - k) z).set k (g k) = (List.range (k + 1)).map g ++ List.replicate (n - (k + 1)) z := by
  obtain ⟨j, hj⟩ : ∃ j, n - k = j + 1 := ⟨n - k - 1, by omega⟩
  rw [hj, show n - (k + 1) = j by omega, List.range_succ, List.map_append, List.set_append_right _ _ (by simp)]
  simp [List.replicate_succ]

def EaS (n : Nat) (vs : List V) (f : FuncId) (caps : List V) (g : Nat → V) (S : St) : Prop := ∃ k : Nat, k ≤ n ∧ S.σ 1 = .p (.clo f caps) ∧ S.σ 5 = .own 10 1 0 n ∧ S.σ 11 = .p (.sl (some 2) vs) ∧ S.σ 12 = .p (.i .i64 (n : Int)) ∧ S.σ 13 = .p (.i .i64 (k : Int)) ∧
  S.h 10 = ⟨1, some (.arr 25 (some 2) ((List.range k).map g ++ List.replicate (n - k) (.agg [.b false, .sl none []])))⟩

attribute [local simp] RunL_cons RunL_nil AOp_none AOp_some acK_v acK_call agK_tt agK_ff agK_tf agK_ft agK_tup agK_i aop aun St.ev St.heap St.put thenQ blockQ scopeQ upd_apply S0 argSlot lowV V.cells V.isAgg V.fits V.part partOk plains St.ret retSV svOf svsOf retQ retP retAll retOne uL_length uL_get? uL_get St.elems retH ownIdx ownAt
attribute [local simp] RunD_none RunD_some RunD_nil RunE_any acD_v acD_call agD_tt agD_ff agD_tf agD_ft agD_tup entsOf svref SO.opds SO.writes SO.makes callEnt pureSV pureOf RV.isOwn
attribute [local simp] abin_add abin_sub abin_mul abin_quo abin_rem abin_eql abin_neq abin_lss abin_leq abin_gtr abin_geq
attribute [local simp] uL_snoc uL_set uL_take uL_drop uL_append uL_replicate uL_nil
attribute [local simp] acK_callG acD_callG St.giv gsSV gvSV retEnts ownEnts SO.still
attribute [local simp] S0G argSlotG givSV retQG retPG retAllG retOneG HObj.width V.scalar trimQ V.byte
attribute [local simp] zv V.fits fillOk fillV Z_eq
/-- What each makes, whatever values they are. -/
theorem each_vv {vs : List V} (hn : vs.length ≤ 2 ^ 40) (hv : ∀ i (h : i < vs.length), ∃ n d, vs[i] = .agg [.b n, .sl none (uL d)]) (f : FuncId) (caps : List V) (g : Nat → V) (hg : ∀ i, i < vs.length → ∃ n d, g i = .agg [.b n, .sl none (uL d)])
    (hF : ∀ i (h : i < vs.length), Spec Tryz.prog f ([.i .i64 (i : Int), vs[i]] ++ caps) (· = [.pure (g i)])) :
    Spec Tryz.prog f_zpoly_each_api_Int_api_Int [.sl (some 2) vs, .clo f caps] (· = [.own 25 (some 2) ((List.range vs.length).map g)]) := by
  obtain ⟨n, hnn⟩ : ∃ n, n = vs.length := ⟨_, rfl⟩
  rw [← hnn]
  rw [← hnn] at hn
  refine spec_at Tryz.func50 ok_zpoly_each_api_Int_api_Int [true] rfl (by simp) ?_
  unfold sc_zpoly_each_api_Int_api_Int
  refine WS_seq (WS_reg [] ?_); simp [hnn.symm]
  refine WS_seq (WS_reg [] ?_); simp [hnn.symm]
  refine ⟨by omega, ?_⟩
  refine WS_seq (WS_seq (WS_reg [] ?_)); simp [hnn.symm]
  refine WS_block ?_
  refine WS_loop (EaS n vs f caps g) (fun S => n - nM 13 S) ⟨0, by omega, rfl, rfl, rfl, rfl, rfl, by simp⟩ ?_
  rintro S ⟨k, hk, s1, s5, s11, s12, s13, h10⟩
  have d13 := nM_eq s13
  by_cases hlt : k < n
  · have hk' : k < vs.length := by omega
    obtain ⟨b, d, hvk⟩ := hv k hk'
    have sp := hF k hk'
    rw [hvk] at sp
    obtain ⟨b2, d2, hgk⟩ := hg k hk'
    have w1 := i64_succ k (by omega)
    have hltI : (k : Int) < (n : Int) := by omega
    have hset := range_fill g (.agg [.b false, .sl none []]) hlt
    obtain ⟨W, hW⟩ : ∃ W, W = (List.range k).map g ++ List.replicate (n - k) (V.agg [.b false, .sl none []]) := ⟨_, rfl⟩
    have hpl : W.length = n := by rw [hW]; simp; omega
    rw [← hW] at hset h10
    rw [hgk] at sp hset
    refine WS_seq (WS_reg [] ?_); simp [s1, s5, s11, s12, s13, h10, hlt, hltI, hk', hvk, w1, hpl, hset]
    refine WS_seq ?_
    refine WS_cond (t := true) (by simp [s1, s5, s11, s12, s13, h10, hlt, hltI, hk', hvk, w1, hpl, hset]) (fun _ => ?_) (fun h => by cases h)
    refine WS_skip ?_; simp [s1, s5, s11, s12, s13, h10, hlt, hltI, hk', hvk, w1, hpl, hset]
    refine WS_seq (WS_block (WS_seq (WS_reg [] ?_))); simp [s1, s5, s11, s12, s13, h10, hlt, hltI, hk', hvk, w1, hpl, hset]
    refine WS_reg [] ?_; simp [s1, s5, s11, s12, s13, h10, hlt, hltI, hk', hvk, w1, hpl, hset]
    refine callK sp ?_; simp [s1, s5, s11, s12, s13, h10, hlt, hltI, hk', hvk, w1, hpl, hset]
    refine WS_reg [] ?_; simp [s1, s5, s11, s12, s13, h10, hlt, hltI, hk', hvk, w1, hpl, hset]
    refine ⟨⟨k + 1, by omega, by simp [s1], by simp [s5], by simp [s11], by simp [s12], by simp, by simp [hset]⟩, ?_⟩
    show n - nM 13 _ < n - nM 13 S
    rw [d13, nM_eq (i := 13) (n := k + 1) (by simp)]
    omega
  · obtain rfl : k = n := by omega
    have hltI : ¬ (k : Int) < (k : Int) := by omega
    have hfull : (List.range k).map g ++ List.replicate (k - k) (V.agg [.b false, .sl none []]) = (List.range k).map g := by simp
    rw [hfull] at h10
    have hpt : ((List.range k).map g).take k = (List.range k).map g := List.take_of_length_le (by simp)
    obtain ⟨W, hW⟩ : ∃ W, W = (List.range k).map g := ⟨_, rfl⟩
    have hpl : W.length = k := by rw [hW]; simp
    rw [← hW] at h10 hpt ⊢
    refine WS_seq (WS_reg [] ?_); simp [s1, s5, s11, s12, s13, h10, hltI, hpl, hpt]
    refine WS_seq ?_
    refine WS_cond (t := false) (by simp [s1, s5, s11, s12, s13, h10, hltI, hpl, hpt]) (fun h => by cases h) (fun _ => ?_)
    refine WS_exit ?_; simp [s1, s5, s11, s12, s13, h10, hltI, hpl, hpt]
    refine WS_seq (WS_reg [] ?_); simp [s1, s5, s11, s12, s13, h10, hltI, hpl, hpt]
    refine WS_ret ?_; simp [s1, s5, s11, s12, s13, h10, hltI, hpl, hpt]
theorem each_zz {vs : List V} (hn : vs.length ≤ 2 ^ 40) (hv : ∀ i (h : i < vs.length), ∃ n d, vs[i] = .agg [.b n, .sl none (uL d)]) (f : FuncId) (caps : List V) (g : Nat → Int)
    (hF : ∀ i (h : i < vs.length), Spec Tryz.prog f ([.i .i64 (i : Int), vs[i]] ++ caps) (· = [.pure (Z (g i))])) :
    Spec Tryz.prog f_zpoly_each_api_Int_api_Int [.sl (some 2) vs, .clo f caps] (· = [.own 25 (some 2) (PZ ((List.range vs.length).map g))]) := by
  have := each_vv hn hv f caps (fun i => Z (g i)) (fun i _ => ⟨_, _, rfl⟩) hF
  rw [PZ, List.map_map]
  exact this

theorem norm1 {k : Nat} {v : V} {x : Int} (hv : IsZ k v x) (hk : k ≤ 2 ^ 40) (i : Int) : Spec Tryz.prog f_zpoly_Norm_1 [.i .i64 i, v] (· = [.pure (Z x)]) := by
  have nm := znorm hv hk
  obtain ⟨n, l, rfl, h, hx⟩ := hv
  refine spec_at Tryz.func51 ok_zpoly_Norm_1 [] rfl (by simp) ?_
  unfold sc_zpoly_Norm_1
  refine WS_seq (WS_reg [] ?_); simp
  refine WS_seq (WS_reg [] ?_); simp
  refine callK nm ?_; simp
  refine WS_ret ?_; simp

def NoS (vs : List V) (l : List Int) (S : St) : Prop := ∃ m : Nat, m ≤ vs.length ∧ S.σ 0 = .p (.sl (some 2) (vs.take m)) ∧ ∀ i, m ≤ i → cf l i = 0
def slL (i : Nat) (S : St) : Nat := match S.σ i with | .p (.sl _ xs) => xs.length | _ => 0
theorem slL_eq {i : Nat} {S : St} {sz : Option Nat} {xs : List V} (h : S.σ i = .p (.sl sz xs)) : slL i S = xs.length := by simp only [slL, h]

theorem pnorm {k : Nat} {vs : List V} {l : List Int} (hv : IsP k vs l) (hk : k ≤ 2 ^ 40) (hn : vs.length ≤ 2 ^ 40) : Spec Tryz.prog f_zpoly_Norm [.sl (some 2) vs] (· = [.own 25 (some 2) (PZ (tr l))]) := by
  refine spec_at Tryz.func10 ok_zpoly_Norm [true] rfl (by simp) ?_
  unfold sc_zpoly_Norm
  refine WS_seq (WS_reg [] ?_); simp
  refine WS_seq (WS_block ?_)
  refine WS_loop (NoS vs l) (slL 0) ⟨vs.length, Nat.le_refl _, by simp, fun i hi => cf_ge (by have := hv.len; omega)⟩ ?_
  rintro S ⟨m, hm, s0, hz⟩
  have d0 := slL_eq s0
  have hlen : (vs.take m).length = m := by simp; omega
  rw [hlen] at d0
  have fin : (m = 0 ∨ cf l (m - 1) ≠ 0) → Spec Tryz.prog f_zpoly_each_api_Int_api_Int [.sl (some 2) (vs.take m), .clo f_zpoly_Norm_1 []] (· = [.own 25 (some 2) (PZ (tr l))]) := by
    intro h
    have ea := each_zz (vs := vs.take m) (by omega) (fun i h => by
      obtain ⟨b, d, e, _⟩ := (hv.take m).cell i h
      exact ⟨b, d, e⟩) f_zpoly_Norm_1 [] (cf l) (fun i h => by
      have hi : i < m := by omega
      have hz := (hv.take m).get i h
      rw [cf_take, if_pos hi] at hz
      exact norm1 hz hk _)
    rw [hlen, range_cf l m (by have := hv.len; omega), ← tr_take (by have := hv.len; omega) hz h] at ea
    exact ea
  cases m with
  | zero =>
    have ea := fin (.inl rfl)
    refine WS_seq (WS_seq (WS_reg [] ?_)); simp [s0, hlen]
    refine WS_cond (t := false) (by simp [s0, hlen]) (fun h => by cases h) (fun _ => ?_)
    refine WS_exit ?_; simp [s0, hlen]
    refine WS_seq (WS_reg [] ?_); simp [s0, hlen]
    refine callK ea ?_; simp [s0, hlen]
    refine WS_ret ?_; simp [s0, hlen]
  | succ j =>
    have hj : j < vs.length := by omega
    obtain ⟨b, d, hvj, hzw, hzi⟩ := hv.cell j hj
    have sg := zsign (isZ_zv (n := b) hzw) hk
    rw [hzi] at sg
    have w1 := i64_nat j (by omega)
    have hlen1 : (vs.take (j + 1)).length = j + 1 := hlen
    by_cases h0 : cf l j = 0
    · rw [h0, Int.sign_zero] at sg
      refine WS_seq (WS_seq (WS_reg [] ?_)); simp [s0, hlen1, w1, hj, hvj]
      refine ⟨by omega, ?_⟩
      refine callK sg ?_; simp [s0, hlen1, w1, hj, hvj]
      refine WS_cond (t := true) (by simp [s0, hlen1, w1, hj, hvj]) (fun _ => ?_) (fun h => by cases h)
      refine WS_skip ?_; simp [s0, hlen1, w1, hj, hvj]
      refine WS_block (WS_reg [] ?_); simp [s0, hlen1, w1, hj, hvj]
      refine ⟨by omega, ⟨j, by omega, by simp [List.take_take], fun i hi => ?_⟩, ?_⟩
      · rcases Nat.lt_or_ge j i with h | h
        · exact hz i h
        · rw [show i = j by omega]; exact h0
      · rw [d0, slL_eq (i := 0) (sz := some 2) (xs := vs.take j) (by simp [List.take_take])]
        simp
        omega
    · have hs : ¬ (cf l j).sign = 0 := by rw [Int.sign_eq_zero_iff_zero]; exact h0
      have ea := fin (.inr h0)
      refine WS_seq (WS_seq (WS_reg [] ?_)); simp [s0, hlen1, w1, hj, hvj, hs]
      refine ⟨by omega, ?_⟩
      refine callK sg ?_; simp [s0, hlen1, w1, hj, hvj, hs]
      refine WS_cond (t := false) (by simp [s0, hlen1, w1, hj, hvj, hs]) (fun h => by cases h) (fun _ => ?_)
      refine WS_exit ?_; simp [s0, hlen1, w1, hj, hvj, hs]
      refine WS_seq (WS_reg [] ?_); simp [s0, hlen1, w1, hj, hvj, hs]
      refine callK ea ?_; simp [s0, hlen1, w1, hj, hvj, hs]
      refine WS_ret ?_; simp [s0, hlen1, w1, hj, hvj, hs]
end Go.Vw
set_option linter.unusedVariables false
set_option linter.unusedSimpArgs false
namespace Go.Vw
open Go.Proofs Go.Py

theorem range_scL (c : Int) (l : List Int) : (List.range l.length).map (fun i => cf l i * c) = scL c l := by
  refine ext_cf (by simp [scL]) fun i => ?_
  rw [cf_range, cf_scL]
  split
  · exact Int.mul_comm _ _
  · rw [cf_ge (by omega), Int.mul_zero]
attribute [local simp] RunL_cons RunL_nil AOp_none AOp_some acK_v acK_call agK_tt agK_ff agK_tf agK_ft agK_tup agK_i aop aun St.ev St.heap St.put thenQ blockQ scopeQ upd_apply S0 argSlot lowV V.cells V.isAgg V.fits V.part partOk plains St.ret retSV svOf svsOf retQ retP retAll retOne uL_length uL_get? uL_get St.elems retH ownIdx ownAt
attribute [local simp] RunD_none RunD_some RunD_nil RunE_any acD_v acD_call agD_tt agD_ff agD_tf agD_ft agD_tup entsOf svref SO.opds SO.writes SO.makes callEnt pureSV pureOf RV.isOwn
attribute [local simp] abin_add abin_sub abin_mul abin_quo abin_rem abin_eql abin_neq abin_lss abin_leq abin_gtr abin_geq
attribute [local simp] uL_snoc uL_set uL_take uL_drop uL_append uL_replicate uL_nil
attribute [local simp] acK_callG acD_callG St.giv gsSV gvSV retEnts ownEnts SO.still
attribute [local simp] S0G argSlotG givSV retQG retPG retAllG retOneG HObj.width V.scalar trimQ V.byte
attribute [local simp] zv V.fits fillOk fillV Z_eq
theorem own_plain {f : FuncId} {args : List V} {T : TypeId} {sz : Option Nat} {xs : List V} (h : Spec Tryz.prog f args (· = [.own T sz xs])) : Spec Tryz.prog f args (· = [.pure (.sl sz xs)]) :=
  h.plain fun r e => by rw [e]; rfl
theorem scale1 {k j : Nat} {v : V} {x : Int} {n : Bool} {d : List Nat} (hv : IsZ k v x) (hc : ZW j d) (hk : k ≤ 2 ^ 27) (hj : j ≤ 2 ^ 27) (i : Int) : Spec Tryz.prog f_zpoly_Scale_1 [.i .i64 i, v, .ref (some 2) (.agg [.b n, .sl none (uL d)])] (· = [.pure (Z (x * zi n d))]) := by
  have mu := zmul (hv.mono (show k ≤ k + j by omega)) ((isZ_zv (n := n) hc).mono (show j ≤ k + j by omega)) (by omega)
  obtain ⟨b, l, rfl, h, hx⟩ := hv
  obtain ⟨y, hy⟩ : ∃ y, y = x * zi n d := ⟨_, rfl⟩
  rw [← hy] at mu ⊢
  refine spec_at Tryz.func63 ok_zpoly_Scale_1 [] rfl (by simp) ?_
  unfold sc_zpoly_Scale_1
  refine WS_seq (WS_reg [] ?_); simp
  refine WS_seq (WS_reg [] ?_); simp
  refine callK mu ?_; simp
  refine WS_ret ?_; simp

theorem pscale {k j : Nat} {vs : List V} {l : List Int} {v : V} {c : Int} (hv : IsP k vs l) (hc : IsZ j v c) (hk : k ≤ 2 ^ 26) (hj : j ≤ 2 ^ 26) (hn : vs.length ≤ 2 ^ 40) : Spec Tryz.prog f_zpoly_Scale [.sl (some 2) vs, v] (· = [.own 25 (some 2) (PZ (tr (scL c l)))]) := by
  have hcl := hc.zlen
  obtain ⟨n, d, rfl, hd, rfl⟩ := hc
  have ea := own_plain (each_zz (vs := vs) hn (fun i h => by
    obtain ⟨b, d, e, _⟩ := hv.cell i h
    exact ⟨b, d, e⟩) f_zpoly_Scale_1 [.ref (some 2) (.agg [.b n, .sl none (uL d)])] (fun i => cf l i * zi n d) (fun i h => scale1 (hv.get i h) hd (by omega) (by omega) _))
  rw [hv.len, range_scL] at ea
  have hl2 : (scL (zi n d) l).length = vs.length := by rw [hv.len]; simp [scL]
  have nm := pnorm (isP_PZ (pl_sc (c := zi n d) hv.pl hcl)) (by omega) (by rw [PZ_length, hl2]; exact hn)
  obtain ⟨L, hL⟩ : ∃ L, L = PZ (scL (zi n d) l) := ⟨_, rfl⟩
  rw [← hL] at ea nm
  refine spec_at Tryz.func18 ok_zpoly_Scale [true] rfl (by simp) ?_
  unfold sc_zpoly_Scale
  refine WS_seq (WS_reg [] ?_); simp
  refine WS_frz 3 3 (some 2) ?_
  simp [frzQ]
  refine WS_seq (WS_reg [] ?_); simp
  refine callK ea ?_; simp
  refine callK nm ?_; simp
  refine WS_ret ?_; simp

theorem add1_ {k : Nat} {v : V} {x : Int} {ws : List V} {b : List Int} (hv : IsZ k v x) (hw : IsP k ws b) (hk : k ≤ 2 ^ 30) (i : Nat) (hi : i ≤ 2 ^ 40) (hl : ws.length ≤ 2 ^ 40) (hr : i < ws.length → True) :
    i < ws.length → Spec Tryz.prog f_zpoly_Add_1 [.i .i64 (i : Int), v, .ref none (.sl (some 2) ws)] (· = [.pure (Z (x + cf b i))]) := by
  intro hlt
  obtain ⟨n2, d2, hwi, hz2, hx2⟩ := hw.cell i hlt
  have ad := zadd hv (hw.get i hlt) (by omega)
  rw [hwi] at ad
  obtain ⟨n, l, rfl, h, hx⟩ := hv
  obtain ⟨y, hy⟩ : ∃ y, y = x + cf b i := ⟨_, rfl⟩
  rw [← hy] at ad ⊢
  have hltI : (i : Int) < (ws.length : Int) := by omega
  refine spec_at Tryz.func55 ok_zpoly_Add_1 [] rfl (by simp) ?_
  unfold sc_zpoly_Add_1
  refine WS_seq (WS_reg [] ?_); simp [hlt, hltI, hwi]
  refine WS_seq (WS_seq (WS_reg [] ?_)); simp [hlt, hltI, hwi]
  refine WS_cond (t := true) (by simp [hlt, hltI, hwi]) (fun _ => ?_) (fun h => by cases h)
  refine WS_seq (WS_regD [] ?_); simp [hlt, hltI, hwi]
  refine callD ad rfl ?_; simp [hlt, hltI, hwi]
  refine ⟨rfl, ?_⟩
  refine WS_ret ?_; simp [hlt, hltI, hwi]

theorem psub {k : Nat} {vs ws : List V} {a b : List Int} (hadd : ∀ us c, IsP (k + 1) us c → us.length ≤ ws.length → Spec Tryz.prog f_zpoly_Add [.sl (some 2) vs, .sl (some 2) us] (· = [.own 25 (some 2) (PZ (tr (addL a c)))]))
    (hw : IsP k ws b) (hk : k ≤ 2 ^ 25) (hn : ws.length ≤ 2 ^ 40) : Spec Tryz.prog f_zpoly_Sub [.sl (some 2) vs, .sl (some 2) ws] (· = [.own 25 (some 2) (PZ (tr (addL a (scL (-1) b))))]) := by
  have o1 := zof (-1) (by omega) (by omega)
  have l1 : zlen (-1) ≤ 1 := zlen_small (by decide)
  have sc := own_plain (pscale hw (isZ_Z l1) (by omega) (by omega) hn)
  have hl : (PZ (tr (scL (-1) b))).length ≤ ws.length := by
    rw [PZ_length]
    have h1 := tr_len (scL (-1) b)
    have h2 : (scL (-1) b).length = b.length := by simp [scL]
    have := hw.len
    omega
  have ad := hadd _ _ (isP_PZ (pl_tr (pl_sc (c := -1) hw.pl l1))) hl
  have e : tr (addL a (tr (scL (-1) b))) = tr (addL a (scL (-1) b)) := tr_of_eqp (eqp_addL Eqp.rfl' (cf_tr _))
  rw [e] at ad
  obtain ⟨L, hL⟩ : ∃ L, L = PZ (tr (scL (-1) b)) := ⟨_, rfl⟩
  rw [← hL] at sc ad
  obtain ⟨R, hR⟩ : ∃ L, L = PZ (tr (addL a (scL (-1) b))) := ⟨_, rfl⟩
  rw [← hR] at ad ⊢
  refine spec_at Tryz.func14 ok_zpoly_Sub [true] rfl (by simp) ?_
  unfold sc_zpoly_Sub
  refine WS_seq (WS_reg [] ?_); simp
  refine WS_seq (WS_reg [] ?_); simp
  refine callK o1 ?_; simp
  refine callK sc ?_; simp
  refine callK ad ?_; simp
  refine WS_ret ?_; simp
end Go.Vw
set_option linter.unusedVariables false
set_option linter.unusedSimpArgs false
namespace Go.Vw
open Go.Proofs Go.Py

theorem evl_len {k j : Nat} {x : Int} (hx : zlen x ≤ j) : ∀ {l : List Int}, PL k l → zlen (evL x l) ≤ k + l.length * (j + 1)
  | [], _ => by rw [evL, zlen_zero]; omega
  | c :: a, h => by
    have hc : zlen c ≤ k := by have := h 0; rwa [cf_zero] at this
    have ih := evl_len hx (l := a) (fun i => by have := h (i + 1); rwa [cf_succ] at this)
    have h1 := zlen_mul x (evL x a)
    have h2 := zlen_add c (x * evL x a)
    rw [evL, List.length_cons, Nat.succ_mul]
    omega
theorem pl_drop {k : Nat} {l : List Int} (h : PL k l) (n : Nat) : PL k (l.drop n) := fun i => by
  have : cf (l.drop n) i = cf l (n + i) := by
    by_cases hi : n + i < l.length
    · rw [cf_lt (by simp; omega), cf_lt hi, List.getElem_drop]
    · rw [cf_ge (by simp; omega), cf_ge (by omega)]
  rw [this]; exact h _

def EvS (vs : List V) (l : List Int) (x : Int) (n : Bool) (d : List Nat) (S : St) : Prop := ∃ k : Nat, k ≤ l.length ∧ S.σ 0 = .p (.sl (some 2) vs) ∧ S.σ 6 = .p (.i .i64 ((k : Int) - 1)) ∧ S.σ 5 = .ptr 5 1 0 ∧ S.h 5 = ⟨1, some (.box 25 [.b (zn (evL x (l.drop k))), .sl none (uL (zl (evL x (l.drop k))))])⟩ ∧
  S.σ 3 = .ptr 3 1 0 ∧ S.h 3 = ⟨1, some (.box 25 [.b n, .sl none (uL d)])⟩ ∧ S.σ 4 = .ptr 4 1 0 ∧ S.h 4 = ⟨1, some (.box 25 [.b false, .sl none []])⟩
def dnM (i : Nat) (S : St) : Nat := match S.σ i with | .p (.i _ n) => (n + 1).toNat | _ => 0
theorem dnM_eq {i : Nat} {S : St} {k : Nat} (h : S.σ i = .p (.i .i64 ((k : Int) - 1))) : dnM i S = k := by simp only [dnM, h]; omega

attribute [local simp] RunL_cons RunL_nil AOp_none AOp_some acK_v acK_call agK_tt agK_ff agK_tf agK_ft agK_tup agK_i aop aun St.ev St.heap St.put thenQ blockQ scopeQ upd_apply S0 argSlot lowV V.cells V.isAgg V.fits V.part partOk plains St.ret retSV svOf svsOf retQ retP retAll retOne uL_length uL_get? uL_get St.elems retH ownIdx ownAt
attribute [local simp] RunD_none RunD_some RunD_nil RunE_any acD_v acD_call agD_tt agD_ff agD_tf agD_ft agD_tup entsOf svref SO.opds SO.writes SO.makes callEnt pureSV pureOf RV.isOwn
attribute [local simp] abin_add abin_sub abin_mul abin_quo abin_rem abin_eql abin_neq abin_lss abin_leq abin_gtr abin_geq
attribute [local simp] uL_snoc uL_set uL_take uL_drop uL_append uL_replicate uL_nil
attribute [local simp] acK_callG acD_callG St.giv gsSV gvSV retEnts ownEnts SO.still
attribute [local simp] S0G argSlotG givSV retQG retPG retAllG retOneG HObj.width V.scalar trimQ V.byte
attribute [local simp] zv V.fits fillOk fillV Z_eq
set_option maxHeartbeats 1000000 in
theorem peval {k j : Nat} {vs : List V} {l : List Int} {v : V} {x : Int} (hv : IsP k vs l) (hx : IsZ j v x) (hk : k ≤ 2 ^ 20) (hj : j ≤ 2 ^ 20) (hn : vs.length ≤ 2 ^ 20) (hb : vs.length * (j + 1) ≤ 2 ^ 24) :
    Spec Tryz.prog f_zpoly_Eval [.sl (some 2) vs, v] (· = [.pure (Z (evL x l))]) := by
  have o0 := zof 0 (by omega) (by omega)
  have xl := hx.zlen
  have hlen := hv.len
  have hx2 := hx
  obtain ⟨n, d, rfl, hd, hxd⟩ := hx
  have e0 : zn 0 = false := by decide
  have ed := evL_drop_all x l
  have w0 : IntKind.i64.wrap ((vs.length : Int) - 1) = (vs.length : Int) - 1 := by
    rcases Nat.eq_zero_or_pos vs.length with h | h
    · rw [h]; decide
    · rw [show (vs.length : Int) - 1 = ((vs.length - 1 : Nat) : Int) by omega]; exact i64_nat _ (by omega)
  refine spec_at Tryz.func31 ok_zpoly_Eval [] rfl (by simp) ?_
  unfold sc_zpoly_Eval
  refine WS_seq (WS_reg [] ?_); simp [w0]
  refine WS_seq (WS_reg [] ?_); simp [w0]
  refine callK o0 ?_; simp [w0]
  refine WS_seq (WS_seq (WS_reg [] ?_)); simp [w0]
  refine WS_block ?_
  refine WS_loop (EvS vs l x n d) (dnM 6) ⟨l.length, Nat.le_refl _, rfl, by rw [← hlen]; rfl, rfl, by rw [ed]; rfl, rfl, rfl, rfl, rfl⟩ ?_
  rintro S ⟨i, hi, s0, s6, s5, h5, s3, h3, s4, h4⟩
  have d6 := dnM_eq s6
  cases i with
  | zero =>
    rw [List.drop_zero] at h5
    refine WS_seq (WS_seq (WS_reg [] ?_)); simp [s0, s6, s5, h5, s3, h3, s4, h4]
    refine WS_cond (t := false) (by simp [s0, s6, s5, h5, s3, h3, s4, h4]) (fun h => by cases h) (fun _ => ?_)
    refine WS_exit ?_; simp [s0, s6, s5, h5, s3, h3, s4, h4]
    refine WS_seq (WS_reg [] ?_); simp [s0, s6, s5, h5, s3, h3, s4, h4]
    refine WS_ret ?_; simp [s0, s6, s5, h5, s3, h3, s4, h4]
  | succ i =>
    have hiv : i < vs.length := by omega
    obtain ⟨b, t, hvi, hz, hzi⟩ := hv.cell i hiv
    have hm : (l.length - (i + 1)) * (j + 1) ≤ vs.length * (j + 1) := Nat.mul_le_mul_right _ (by omega)
    have le := evl_len xl (pl_drop hv.pl (i + 1))
    rw [List.length_drop] at le
    have mu := zmul (isZ_of (x := evL x (l.drop (i + 1))) (k := 2 ^ 26) (by omega)) (hx2.mono (show j ≤ 2 ^ 26 by omega)) (by omega)
    have ml := zlen_mul (evL x (l.drop (i + 1))) x
    have ad := zadd (isZ_of (x := evL x (l.drop (i + 1)) * x) (k := 2 ^ 27) (by omega)) ((hv.get i hiv).mono (show k ≤ 2 ^ 27 by omega)) (by omega)
    rw [hvi, ← evL_drop x l i (by omega)] at ad
    have e1 : ((i + 1 : Nat) : Int) - 1 = (i : Int) := by omega
    rw [e1] at s6
    have w1 : IntKind.i64.wrap ((i : Int) - 1) = (i : Int) - 1 := by
      rcases Nat.eq_zero_or_pos i with h | h
      · rw [h]; decide
      · rw [show (i : Int) - 1 = ((i - 1 : Nat) : Int) by omega]; exact i64_nat _ (by omega)
    obtain ⟨y, hy⟩ : ∃ y, y = evL x (l.drop (i + 1)) := ⟨_, rfl⟩
    rw [← hy] at mu ad h5
    refine WS_seq (WS_seq (WS_reg [] ?_)); simp [s0, s6, s5, h5, s3, h3, s4, h4, hiv, hvi, w1]
    refine WS_cond (t := true) (by simp [s0, s6, s5, h5, s3, h3, s4, h4, hiv, hvi, w1]) (fun _ => ?_) (fun h => by cases h)
    refine WS_skip ?_; simp [s0, s6, s5, h5, s3, h3, s4, h4, hiv, hvi, w1]
    refine WS_seq (WS_block (WS_regD [] ?_)); simp [s0, s6, s5, h5, s3, h3, s4, h4, hiv, hvi, w1]
    refine callD mu rfl ?_; simp [s0, s6, s5, h5, s3, h3, s4, h4, hiv, hvi, w1]
    refine callD ad rfl ?_; simp [s0, s6, s5, h5, s3, h3, s4, h4, hiv, hvi, w1]
    refine ⟨rfl, ?_⟩
    refine WS_reg [] ?_; simp [s0, s6, s5, h5, s3, h3, s4, h4, hiv, hvi, w1]
    have ex : ∀ T : St, T.σ 6 = .p (.i .i64 ((i : Int) - 1)) → dnM 6 T = i := fun T h => dnM_eq h
    refine ⟨⟨i, by omega, by simp [s0], by simp, by simp [s5], by simp, by simp [s3], by simp [h3], by simp [s4], by simp [h4]⟩, ?_⟩
    rw [d6, dnM_eq (i := 6) (k := i) (by simp)]
    omega
end Go.Vw
set_option linter.unusedVariables false
set_option linter.unusedSimpArgs false
namespace Go.Vw
open Go.Proofs Go.Py

theorem addL_length : ∀ a b : List Int, b.length ≤ a.length → (addL a b).length = a.length
  | [], b, h => by cases b <;> simp_all [addL]
  | x :: a, [], h => rfl
  | x :: a, y :: b, h => by simp [addL]; exact addL_length a b (by simpa using h)
/-- What Add's each makes. -/
def adV (vs : List V) (a b : List Int) (n : Nat) (i : Nat) : V := if i < n then Z (cf a i + cf b i) else vs.getD i default
theorem isP_add {k : Nat} {vs ws : List V} {a b : List Int} (hv : IsP k vs a) (hw : IsP k ws b) (h : ws.length ≤ vs.length) : IsP (k + 1) ((List.range vs.length).map (adV vs a b ws.length)) (addL a b) := by
  have h1 := hv.len
  have h2 := hw.len
  refine ⟨by simp [addL_length a b (by omega), h1], fun i hi => ?_⟩
  have hi' : i < vs.length := by simpa using hi
  simp only [List.getElem_map, List.getElem_range, adV]
  rw [cf_addL]
  split
  · refine isZ_Z ?_
    have := zlen_add (cf a i) (cf b i)
    have := hv.pl i
    have := hw.pl i
    omega
  · rw [cf_ge (l := b) (by omega), Int.add_zero, List.getD_eq_getElem?_getD, List.getElem?_eq_getElem hi']
    exact (hv.get i hi').mono (by omega)

attribute [local simp] RunL_cons RunL_nil AOp_none AOp_some acK_v acK_call agK_tt agK_ff agK_tf agK_ft agK_tup agK_i aop aun St.ev St.heap St.put thenQ blockQ scopeQ upd_apply S0 argSlot lowV V.cells V.isAgg V.fits V.part partOk plains St.ret retSV svOf svsOf retQ retP retAll retOne uL_length uL_get? uL_get St.elems retH ownIdx ownAt
attribute [local simp] RunD_none RunD_some RunD_nil RunE_any acD_v acD_call agD_tt agD_ff agD_tf agD_ft agD_tup entsOf svref SO.opds SO.writes SO.makes callEnt pureSV pureOf RV.isOwn
attribute [local simp] abin_add abin_sub abin_mul abin_quo abin_rem abin_eql abin_neq abin_lss abin_leq abin_gtr abin_geq
attribute [local simp] uL_snoc uL_set uL_take uL_drop uL_append uL_replicate uL_nil
attribute [local simp] acK_callG acD_callG St.giv gsSV gvSV retEnts ownEnts SO.still
attribute [local simp] S0G argSlotG givSV retQG retPG retAllG retOneG HObj.width V.scalar trimQ V.byte
attribute [local simp] zv V.fits fillOk fillV Z_eq
theorem add2_ {n : Bool} {d : List Nat} {ws : List V} (i : Nat) (hi : ws.length ≤ i) (hi2 : i ≤ 2 ^ 40) :
    Spec Tryz.prog f_zpoly_Add_1 [.i .i64 (i : Int), .agg [.b n, .sl none (uL d)], .ref none (.sl (some 2) ws)] (· = [.pure (.agg [.b n, .sl none (uL d)])]) := by
  have hltI : ¬ (i : Int) < (ws.length : Int) := by omega
  have hlt : ¬ i < ws.length := by omega
  refine spec_at Tryz.func55 ok_zpoly_Add_1 [] rfl (by simp) ?_
  unfold sc_zpoly_Add_1
  refine WS_seq (WS_reg [] ?_); simp [hlt, hltI]
  refine WS_seq (WS_seq (WS_reg [] ?_)); simp [hlt, hltI]
  refine WS_cond (t := false) (by simp [hlt, hltI]) (fun h => by cases h) (fun _ => ?_)
  refine WS_skip ?_; simp [hlt, hltI]
  refine WS_seq (WS_reg [] ?_); simp [hlt, hltI]
  refine WS_ret ?_; simp [hlt, hltI]

theorem padd_each {k : Nat} {vs ws : List V} {a b : List Int} (hv : IsP k vs a) (hw : IsP k ws b) (h : ws.length ≤ vs.length) (hk : k ≤ 2 ^ 30) (hn : vs.length ≤ 2 ^ 40) :
    Spec Tryz.prog f_zpoly_each_api_Int_api_Int [.sl (some 2) vs, .clo f_zpoly_Add_1 [.ref none (.sl (some 2) ws)]] (· = [.pure (.sl (some 2) ((List.range vs.length).map (adV vs a b ws.length)))]) := by
  refine own_plain (each_vv hn (fun i hi => ?_) _ _ _ (fun i hi => ?_) (fun i hi => ?_))
  · obtain ⟨c, d, e, _⟩ := hv.cell i hi
    exact ⟨c, d, e⟩
  · rw [adV]
    split
    · exact ⟨_, _, rfl⟩
    · obtain ⟨c, d, e, _⟩ := hv.cell i hi
      exact ⟨c, d, by rw [List.getD_eq_getElem?_getD, List.getElem?_eq_getElem hi]; exact e⟩
  · rw [adV]
    split
    · rename_i hlt
      exact add1_ (hv.get i hi) hw hk i (by omega) (by omega) (fun _ => trivial) hlt
    · obtain ⟨c, d, e, _⟩ := hv.cell i hi
      have := add2_ (n := c) (d := d) (ws := ws) i (by omega) (by omega)
      rw [← e] at this
      rw [List.getD_eq_getElem?_getD, List.getElem?_eq_getElem hi]
      exact this

theorem padd {k : Nat} {vs ws : List V} {a b : List Int} (hv : IsP k vs a) (hw : IsP k ws b) (hk : k ≤ 2 ^ 30) (hn : vs.length ≤ 2 ^ 40) (hn2 : ws.length ≤ 2 ^ 40) :
    Spec Tryz.prog f_zpoly_Add [.sl (some 2) vs, .sl (some 2) ws] (· = [.own 25 (some 2) (PZ (tr (addL a b)))]) := by
  by_cases h : vs.length < ws.length
  · have ea := padd_each hw hv (by omega) hk hn2
    have nm := pnorm (isP_add hw hv (by omega)) (by omega) (by simpa using hn2)
    rw [tr_of_eqp (addL_comm b a)] at nm
    obtain ⟨W, hW⟩ : ∃ W, W = (List.range ws.length).map (adV ws b a vs.length) := ⟨_, rfl⟩
    rw [← hW] at ea nm
    obtain ⟨R, hR⟩ : ∃ R, R = PZ (tr (addL a b)) := ⟨_, rfl⟩
    rw [← hR] at nm ⊢
    have hI : (vs.length : Int) < (ws.length : Int) := by omega
    refine spec_at Tryz.func12 ok_zpoly_Add [true] rfl (by simp) ?_
    unfold sc_zpoly_Add
    refine WS_seq (WS_reg [] ?_); simp [h, hI]
    refine WS_seq (WS_seq (WS_reg [] ?_)); simp [h, hI]
    refine WS_cond (t := true) (by simp [h, hI]) (fun _ => ?_) (fun h => by cases h)
    refine WS_reg [] ?_; simp [h, hI]
    refine WS_frz 3 3 none ?_
    simp [frzQ]
    refine WS_seq (WS_reg [] ?_); simp [h, hI]
    refine callK ea ?_; simp [h, hI]
    refine callK nm ?_; simp [h, hI]
    refine WS_ret ?_; simp [h, hI]
  · have ea := padd_each hv hw (by omega) hk hn
    have nm := pnorm (isP_add hv hw (by omega)) (by omega) (by simpa using hn)
    obtain ⟨W, hW⟩ : ∃ W, W = (List.range vs.length).map (adV vs a b ws.length) := ⟨_, rfl⟩
    rw [← hW] at ea nm
    obtain ⟨R, hR⟩ : ∃ R, R = PZ (tr (addL a b)) := ⟨_, rfl⟩
    rw [← hR] at nm ⊢
    have hI : ¬ (vs.length : Int) < (ws.length : Int) := by omega
    refine spec_at Tryz.func12 ok_zpoly_Add [true] rfl (by simp) ?_
    unfold sc_zpoly_Add
    refine WS_seq (WS_reg [] ?_); simp [h, hI]
    refine WS_seq (WS_seq (WS_reg [] ?_)); simp [h, hI]
    refine WS_frz 3 3 none ?_
    simp [frzQ]
    refine WS_cond (t := false) (by simp [h, hI]) (fun h => by cases h) (fun _ => ?_)
    refine WS_skip ?_; simp [h, hI]
    refine WS_seq (WS_reg [] ?_); simp [h, hI]
    refine callK ea ?_; simp [h, hI]
    refine callK nm ?_; simp [h, hI]
    refine WS_ret ?_; simp [h, hI]

theorem psub' {k : Nat} {vs ws : List V} {a b : List Int} (hv : IsP k vs a) (hw : IsP k ws b) (hk : k ≤ 2 ^ 25) (hn : vs.length ≤ 2 ^ 40) (hn2 : ws.length ≤ 2 ^ 40) :
    Spec Tryz.prog f_zpoly_Sub [.sl (some 2) vs, .sl (some 2) ws] (· = [.own 25 (some 2) (PZ (tr (addL a (scL (-1) b))))]) :=
  psub (fun us c hu hl => padd (hv.mono (by omega)) hu (by omega) hn (by omega)) hw hk hn2
end Go.Vw
set_option linter.unusedVariables false
set_option linter.unusedSimpArgs false
namespace Go.Vw
open Go.Proofs Go.Py

def EiS (n : Nat) (l : List Int) (f : FuncId) (caps : List V) (g : Nat → V) (S : St) : Prop := ∃ k : Nat, k ≤ n ∧ S.σ 1 = .p (.clo f caps) ∧ S.σ 5 = .own 10 1 0 n ∧ S.σ 11 = .p (.sl none (l.map fun x => V.i .i64 x)) ∧ S.σ 12 = .p (.i .i64 (n : Int)) ∧ S.σ 13 = .p (.i .i64 (k : Int)) ∧
  S.h 10 = ⟨1, some (.arr 25 (some 2) ((List.range k).map g ++ List.replicate (n - k) (.agg [.b false, .sl none []])))⟩

attribute [local simp] RunL_cons RunL_nil AOp_none AOp_some acK_v acK_call agK_tt agK_ff agK_tf agK_ft agK_tup agK_i aop aun St.ev St.heap St.put thenQ blockQ scopeQ upd_apply S0 argSlot lowV V.cells V.isAgg V.fits V.part partOk plains St.ret retSV svOf svsOf retQ retP retAll retOne uL_length uL_get? uL_get St.elems retH ownIdx ownAt
attribute [local simp] RunD_none RunD_some RunD_nil RunE_any acD_v acD_call agD_tt agD_ff agD_tf agD_ft agD_tup entsOf svref SO.opds SO.writes SO.makes callEnt pureSV pureOf RV.isOwn
attribute [local simp] abin_add abin_sub abin_mul abin_quo abin_rem abin_eql abin_neq abin_lss abin_leq abin_gtr abin_geq
attribute [local simp] uL_snoc uL_set uL_take uL_drop uL_append uL_replicate uL_nil
attribute [local simp] acK_callG acD_callG St.giv gsSV gvSV retEnts ownEnts SO.still
attribute [local simp] S0G argSlotG givSV retQG retPG retAllG retOneG HObj.width V.scalar trimQ V.byte
attribute [local simp] zv V.fits fillOk fillV Z_eq
theorem each_iz {l : List Int} (hn : l.length ≤ 2 ^ 40) (f : FuncId) (caps : List V) (g : Nat → V) (hg : ∀ i, i < l.length → ∃ n d, g i = .agg [.b n, .sl none (uL d)])
    (hF : ∀ i (h : i < l.length), Spec Tryz.prog f ([.i .i64 (i : Int), .i .i64 l[i]] ++ caps) (· = [.pure (g i)])) :
    Spec Tryz.prog f_zpoly_each_int_api_Int [.sl none (l.map fun x => V.i .i64 x), .clo f caps] (· = [.own 25 (some 2) ((List.range l.length).map g)]) := by
  obtain ⟨n, hnn⟩ : ∃ n, n = l.length := ⟨_, rfl⟩
  rw [← hnn]
  rw [← hnn] at hn
  refine spec_at Tryz.func66 ok_zpoly_each_int_api_Int [true] rfl (by simp) ?_
  unfold sc_zpoly_each_int_api_Int
  refine WS_seq (WS_reg [] ?_); simp [hnn.symm]
  refine WS_seq (WS_reg [] ?_); simp [hnn.symm]
  refine ⟨by omega, ?_⟩
  refine WS_seq (WS_seq (WS_reg [] ?_)); simp [hnn.symm]
  refine WS_block ?_
  refine WS_loop (EiS n l f caps g) (fun S => n - nM 13 S) ⟨0, by omega, rfl, rfl, rfl, rfl, rfl, by simp⟩ ?_
  rintro S ⟨k, hk, s1, s5, s11, s12, s13, h10⟩
  have d13 := nM_eq s13
  by_cases hlt : k < n
  · have hk' : k < l.length := by omega
    have hvk : l[k]? = some l[k] := List.getElem?_eq_getElem hk'
    have hvk2 : (l.map fun x => V.i .i64 x).length = n := by simp [hnn]
    have sp := hF k hk'
    obtain ⟨x, hx⟩ : ∃ x, x = l[k] := ⟨_, rfl⟩
    rw [← hx] at sp hvk
    obtain ⟨b2, d2, hgk⟩ := hg k hk'
    have w1 := i64_succ k (by omega)
    have hltI : (k : Int) < (n : Int) := by omega
    have hset := range_fill g (.agg [.b false, .sl none []]) hlt
    obtain ⟨W, hW⟩ : ∃ W, W = (List.range k).map g ++ List.replicate (n - k) (V.agg [.b false, .sl none []]) := ⟨_, rfl⟩
    have hpl : W.length = n := by rw [hW]; simp; omega
    rw [← hW] at hset h10
    rw [hgk] at sp hset
    refine WS_seq (WS_reg [] ?_); simp [s1, s5, s11, s12, s13, h10, hlt, hltI, hk', hvk, w1, hx.symm, hpl, hset]
    refine WS_seq ?_
    refine WS_cond (t := true) (by simp [s1, s5, s11, s12, s13, h10, hlt, hltI, hk', hvk, w1, hx.symm, hpl, hset]) (fun _ => ?_) (fun h => by cases h)
    refine WS_skip ?_; simp [s1, s5, s11, s12, s13, h10, hlt, hltI, hk', hvk, w1, hx.symm, hpl, hset]
    refine WS_seq (WS_block (WS_seq (WS_reg [] ?_))); simp [s1, s5, s11, s12, s13, h10, hlt, hltI, hk', hvk, w1, hx.symm, hpl, hset]
    refine WS_reg [] ?_; simp [s1, s5, s11, s12, s13, h10, hlt, hltI, hk', hvk, w1, hx.symm, hpl, hset]
    refine callK sp ?_; simp [s1, s5, s11, s12, s13, h10, hlt, hltI, hk', hvk, w1, hx.symm, hpl, hset]
    refine WS_reg [] ?_; simp [s1, s5, s11, s12, s13, h10, hlt, hltI, hk', hvk, w1, hx.symm, hpl, hset]
    refine ⟨⟨k + 1, by omega, by simp [s1], by simp [s5], by simp [s11], by simp [s12], by simp, by simp [hset]⟩, ?_⟩
    show n - nM 13 _ < n - nM 13 S
    rw [d13, nM_eq (i := 13) (n := k + 1) (by simp)]
    omega
  · obtain rfl : k = n := by omega
    have hltI : ¬ (k : Int) < (k : Int) := by omega
    have hfull : (List.range k).map g ++ List.replicate (k - k) (V.agg [.b false, .sl none []]) = (List.range k).map g := by simp
    rw [hfull] at h10
    have hpt : ((List.range k).map g).take k = (List.range k).map g := List.take_of_length_le (by simp)
    obtain ⟨W, hW⟩ : ∃ W, W = (List.range k).map g := ⟨_, rfl⟩
    have hpl : W.length = k := by rw [hW]; simp
    rw [← hW] at h10 hpt ⊢
    refine WS_seq (WS_reg [] ?_); simp [s1, s5, s11, s12, s13, h10, hltI, hpl, hpt]
    refine WS_seq ?_
    refine WS_cond (t := false) (by simp [s1, s5, s11, s12, s13, h10, hltI, hpl, hpt]) (fun h => by cases h) (fun _ => ?_)
    refine WS_exit ?_; simp [s1, s5, s11, s12, s13, h10, hltI, hpl, hpt]
    refine WS_seq (WS_reg [] ?_); simp [s1, s5, s11, s12, s13, h10, hltI, hpl, hpt]
    refine WS_ret ?_; simp [s1, s5, s11, s12, s13, h10, hltI, hpl, hpt]

theorem lift1 (i x : Int) (h1 : -9223372036854775808 ≤ x) (h2 : x ≤ 9223372036854775807) : Spec Tryz.prog f_zpoly_Lift_1 [.i .i64 i, .i .i64 x] (· = [.pure (Z x)]) := by
  have o := zof x h1 h2
  refine spec_at Tryz.func67 ok_zpoly_Lift_1 [] rfl (by simp) ?_
  unfold sc_zpoly_Lift_1
  refine WS_seq (WS_reg [] ?_); simp
  refine WS_seq (WS_reg [] ?_); simp
  refine callK o ?_; simp
  refine WS_ret ?_; simp
theorem plift {l : List Int} (hl : ∀ x ∈ l, -9223372036854775808 ≤ x ∧ x ≤ 9223372036854775807) (hn : l.length ≤ 2 ^ 40) : Spec Tryz.prog f_zpoly_Lift [.sl none (l.map fun x => V.i .i64 x)] (· = [.own 25 (some 2) (PZ (tr l))]) := by
  have ea := own_plain (each_iz hn f_zpoly_Lift_1 [] (fun i => Z (cf l i)) (fun i _ => ⟨_, _, rfl⟩) (fun i h => by
    rw [cf_lt h]
    have := hl _ (List.getElem_mem h)
    exact lift1 _ _ this.1 this.2))
  have e : (List.range l.length).map (fun i => Z (cf l i)) = PZ l := by
    have := range_cf l l.length (Nat.le_refl _)
    rw [List.take_length] at this
    have h2 := congrArg PZ this
    rw [PZ, List.map_map] at h2
    exact h2
  rw [e] at ea
  have pl : PL 1 l := fun i => by
    by_cases h : i < l.length
    · rw [cf_lt h]
      have := hl _ (List.getElem_mem h)
      exact zlen_small (by omega)
    · rw [cf_ge (by omega), zlen_zero]; omega
  have nm := pnorm (isP_PZ pl) (by omega) (by rw [PZ_length]; exact hn)
  obtain ⟨W, hW⟩ : ∃ W, W = PZ l := ⟨_, rfl⟩
  rw [← hW] at ea nm
  refine spec_at Tryz.func24 ok_zpoly_Lift [true] rfl (by simp) ?_
  unfold sc_zpoly_Lift
  refine WS_seq (WS_reg [] ?_); simp
  refine WS_seq (WS_reg [] ?_); simp
  refine callK ea ?_; simp
  refine callK nm ?_; simp
  refine WS_ret ?_; simp
theorem pof {l : List Int} (hl : ∀ x ∈ l, -9223372036854775808 ≤ x ∧ x ≤ 9223372036854775807) (hn : l.length ≤ 2 ^ 40) : Spec Tryz.prog f_zpoly_Of [.sl none (l.map fun x => V.i .i64 x)] (· = [.own 25 (some 2) (PZ (tr l))]) := by
  have li := plift hl hn
  refine spec_at Tryz.func22 ok_zpoly_Of [true] rfl (by simp) ?_
  unfold sc_zpoly_Of
  refine WS_seq (WS_reg [] ?_); simp
  refine WS_seq (WS_reg [] ?_); simp
  refine callK li ?_; simp
  refine WS_ret ?_; simp
end Go.Vw
set_option linter.unusedVariables false
set_option linter.unusedSimpArgs false
namespace Go.Vw
open Go.Proofs Go.Py

/-- What Mul's row holds: all of the first i coefficients, and of the next one the first m. -/
structure MuR (k : Nat) (a b : List Int) (N i m : Nat) (o : List Int) : Prop where
  len : o.length = N
  val : ∀ j, cf o j = cf (mulL (a.take i) b) j + if i ≤ j ∧ j - i < m then cf a i * cf b (j - i) else 0
  lim : ∀ j, zlen (cf o j) ≤ 2 * k + i + if i ≤ j ∧ j - i < m then 1 else 0
theorem muR_first (k : Nat) (a b : List Int) (N : Nat) : MuR k a b N 0 0 (List.replicate N 0) where
  len := by simp
  val := fun j => by rw [cf_replicate, List.take_zero, mulL, if_neg (by omega)]; simp
  lim := fun j => by rw [cf_replicate, zlen_zero]; omega
theorem muR_step {k : Nat} {a b : List Int} {N i m : Nat} {o : List Int} (h : MuR k a b N i m o) (ha : PL k a) (hb : PL k b) (hi : i + m < N) : MuR k a b N i (m + 1) (o.set (i + m) (cf o (i + m) + cf a i * cf b m)) where
  len := by simp [h.len]
  val := fun j => by
    rw [cf_set _ _ _ _ (by rw [h.len]; exact hi)]
    by_cases hj : j = i + m
    · subst hj
      rw [if_pos rfl, h.val, if_neg (by omega), if_pos (by omega), show i + m - i = m by omega]; omega
    · rw [if_neg hj, h.val]
      by_cases h1 : i ≤ j ∧ j - i < m
      · rw [if_pos h1, if_pos (by omega)]
      · rw [if_neg h1, if_neg (by omega)]
  lim := fun j => by
    rw [cf_set _ _ _ _ (by rw [h.len]; exact hi)]
    by_cases hj : j = i + m
    · subst hj
      rw [if_pos rfl, if_pos (by omega)]
      have h1 := h.lim (i + m)
      rw [if_neg (by omega)] at h1
      have h2 := zlen_add (cf o (i + m)) (cf a i * cf b m)
      have h3 := zlen_mul (cf a i) (cf b m)
      have h4 := ha i
      have h5 := hb m
      omega
    · rw [if_neg hj]
      have h1 := h.lim j
      by_cases h2 : i ≤ j ∧ j - i < m
      · rw [if_pos h2] at h1; rw [if_pos (by omega)]; exact h1
      · rw [if_neg h2] at h1; rw [if_neg (by omega)]; exact h1
theorem muR_next {k : Nat} {a b : List Int} {N i : Nat} {o : List Int} (h : MuR k a b N i b.length o) : MuR k a b N (i + 1) 0 o where
  len := h.len
  val := fun j => by
    rw [h.val, cf_take_mul, if_neg (show ¬ (i + 1 ≤ j ∧ j - (i + 1) < 0) by omega)]
    by_cases h1 : i ≤ j
    · rw [if_pos h1]
      by_cases h2 : j - i < b.length
      · rw [if_pos ⟨h1, h2⟩]; omega
      · rw [if_neg (by omega), cf_ge (l := b) (by omega)]; omega
    · rw [if_neg h1, if_neg (by omega)]; omega
  lim := fun j => by
    have := h.lim j
    split at this <;> omega
theorem muR_end {k : Nat} {a b : List Int} {N : Nat} {o : List Int} (h : MuR k a b N a.length 0 o) : Eqp o (mulL a b) := fun j => by
  rw [h.val, if_neg (by omega), take_all a b j]; omega

def MuK (N : Nat) (k : Nat) (vs ws : List V) (a b : List Int) (i m : Nat) (S : St) : Prop := ∃ o, MuR k a b N i m o ∧ S.σ 5 = .own 15 1 0 N ∧ S.h 15 = ⟨1, some (.arr 25 (some 2) (PZ o))⟩ ∧ S.σ 16 = .p (.sl (some 2) vs) ∧ S.σ 17 = .p (.i .i64 (vs.length : Int)) ∧ S.σ 18 = .p (.i .i64 (i : Int)) ∧ S.σ 1 = .p (.sl (some 2) ws)
def MuS (N k : Nat) (vs ws : List V) (a b : List Int) (S : St) : Prop := ∃ i : Nat, i ≤ vs.length ∧ MuK N k vs ws a b i 0 S
def MuJ (N k : Nat) (vs ws : List V) (a b : List Int) (i : Nat) (n : Bool) (d : List Nat) (S : St) : Prop := ∃ m g : Nat, m ≤ ws.length ∧ S.σ 23 = .p (.sl (some 2) ws) ∧ S.σ 24 = .p (.i .i64 (ws.length : Int)) ∧ S.σ 25 = .p (.i .i64 (m : Int)) ∧ S.σ 6 = .p (.i .i64 (i : Int)) ∧ S.σ 7 = .ptr 7 g 0 ∧ S.h 7 = ⟨g, some (.box 25 [.b n, .sl none (uL d)])⟩ ∧ MuK N k vs ws a b i m S

attribute [local simp] RunL_cons RunL_nil AOp_none AOp_some acK_v acK_call agK_tt agK_ff agK_tf agK_ft agK_tup agK_i aop aun St.ev St.heap St.put thenQ blockQ scopeQ upd_apply S0 argSlot lowV V.cells V.isAgg V.fits V.part partOk plains St.ret retSV svOf svsOf retQ retP retAll retOne uL_length uL_get? uL_get St.elems retH ownIdx ownAt
attribute [local simp] RunD_none RunD_some RunD_nil RunE_any acD_v acD_call agD_tt agD_ff agD_tf agD_ft agD_tup entsOf svref SO.opds SO.writes SO.makes callEnt pureSV pureOf RV.isOwn
attribute [local simp] abin_add abin_sub abin_mul abin_quo abin_rem abin_eql abin_neq abin_lss abin_leq abin_gtr abin_geq
attribute [local simp] uL_snoc uL_set uL_take uL_drop uL_append uL_replicate uL_nil
attribute [local simp] acK_callG acD_callG St.giv gsSV gvSV retEnts ownEnts SO.still
attribute [local simp] S0G argSlotG givSV retQG retPG retAllG retOneG HObj.width V.scalar trimQ V.byte
attribute [local simp] zv V.fits fillOk fillV Z_eq
set_option maxHeartbeats 1000000 in
theorem pmul {k : Nat} {vs ws : List V} {a b : List Int} (hv : IsP k vs a) (hw : IsP k ws b) (hk : k ≤ 2 ^ 22) (hn : vs.length ≤ 2 ^ 20) (hn2 : ws.length ≤ 2 ^ 20) :
    Spec Tryz.prog f_zpoly_Mul [.sl (some 2) vs, .sl (some 2) ws] (· = [.own 25 (some 2) (PZ (tr (mulL a b)))]) := by
  have hla := hv.len
  have hlb := hw.len
  obtain ⟨N, hN⟩ : ∃ N, N = vs.length + ws.length := ⟨_, rfl⟩
  have wN : IntKind.i64.wrap ((vs.length : Int) + (ws.length : Int)) = (N : Int) := by rw [show (vs.length : Int) + (ws.length : Int) = (N : Int) by omega]; exact i64_nat _ (by omega)
  have hz : List.replicate N (V.agg [.b false, .sl none []]) = PZ (List.replicate N 0) := PZ_replicate N
  refine spec_at Tryz.func16 ok_zpoly_Mul [true] rfl (by simp) ?_
  unfold sc_zpoly_Mul
  refine WS_seq (WS_reg [] ?_); simp [wN]
  refine WS_seq (WS_reg [] ?_); simp [wN]
  refine ⟨by omega, ?_⟩
  refine WS_seq (WS_seq (WS_reg [] ?_)); simp [wN]
  refine WS_block ?_
  refine WS_loop (MuS N k vs ws a b) (fun S => vs.length - nM 18 S) ⟨0, by omega, _, muR_first k a b N, rfl, by simp [hz], rfl, rfl, rfl, rfl⟩ ?_
  rintro S ⟨i, hi, o, hR, s5, h15, s16, s17, s18, s1⟩
  have d18 := nM_eq s18
  by_cases hlt : i < vs.length
  · obtain ⟨n, d, hvi, hz1, hzi⟩ := hv.cell i hlt
    have hltI : (i : Int) < (vs.length : Int) := by omega
    have wi := i64_succ i (by omega)
    refine WS_seq (WS_reg [] ?_); simp [s5, h15, s16, s17, s18, s1, hlt, hltI, hvi]
    refine WS_seq ?_
    refine WS_cond (t := true) (by simp [s5, h15, s16, s17, s18, s1, hlt, hltI, hvi]) (fun _ => ?_) (fun h => by cases h)
    refine WS_skip ?_; simp [s5, h15, s16, s17, s18, s1, hlt, hltI, hvi]
    refine WS_seq (WS_block (WS_seq (WS_reg [] ?_))); simp [s5, h15, s16, s17, s18, s1, hlt, hltI, hvi]
    refine WS_seq (WS_reg [] ?_); simp [s5, h15, s16, s17, s18, s1, hlt, hltI, hvi]
    refine WS_block ?_
    refine WS_loop (MuJ N k vs ws a b i n d) (fun S => ws.length - nM 25 S) ⟨0, (S.h 7).g + 1, by omega, by simp, by simp, by simp, by simp, by simp, by simp, o, hR, by simp [s5], by simp [h15], by simp [s16], by simp [s17], by simp [s18], by simp [s1]⟩ ?_
    clear s5 h15 s16 s17 s18 s1 hR o
    rintro S' ⟨m, g, hm, t23, t24, t25, t6, t7, g7, o, hR, s5, h15, s16, s17, s18, s1⟩
    have d25 := nM_eq t25
    by_cases hlt2 : m < ws.length
    · obtain ⟨n2, d2, hwm, hz2, hzm⟩ := hw.cell m hlt2
      have hltI2 : (m : Int) < (ws.length : Int) := by omega
      have wm := i64_succ m (by omega)
      have wim : IntKind.i64.wrap ((i : Int) + (m : Int)) = (i : Int) + (m : Int) := by rw [show (i : Int) + (m : Int) = ((i + m : Nat) : Int) by omega]; exact i64_nat _ (by omega)
      have tn : ((i : Int) + (m : Int)).toNat = i + m := by omega
      have hI1 : (0 : Int) ≤ (i : Int) + (m : Int) := by omega
      have hI2 : (i : Int) + (m : Int) < (N : Int) := by omega
      have hiN : i + m < N := by omega
      have hpl : (PZ o).length = N := by rw [PZ_length, hR.len]
      have hget := PZ_get o (i + m) (by omega)
      have mu := zmul (hv.get i hlt) (hw.get m hlt2) (by omega)
      rw [hvi, hwm] at mu
      have l1 := hR.lim (i + m)
      rw [if_neg (by omega)] at l1
      have l2 := zlen_mul (cf a i) (cf b m)
      have l3 := hv.pl i
      have l4 := hw.pl m
      have ad := zadd (isZ_of (x := cf o (i + m)) (k := 2 ^ 24) (by omega)) (isZ_of (x := cf a i * cf b m) (k := 2 ^ 24) (by omega)) (by omega)
      have hst := muR_step hR hv.pl hw.pl hiN
      have hset := PZ_set o (i + m) (cf o (i + m) + cf a i * cf b m)
      rw [Z_eq] at hset
      obtain ⟨p, hp⟩ : ∃ p, p = cf a i * cf b m := ⟨_, rfl⟩
      rw [← hp] at mu ad hst hset
      obtain ⟨q, hq⟩ : ∃ q, q = cf o (i + m) + p := ⟨_, rfl⟩
      rw [← hq] at ad hst hset
      obtain ⟨O, hO⟩ : ∃ O, O = PZ o := ⟨_, rfl⟩
      have hget2 : O[i + m]? = some (.agg [.b (zn (cf o (i + m))), .sl none (uL (zl (cf o (i + m))))]) := by rw [hO, List.getElem?_eq_getElem (by omega)]; exact congrArg some hget
      rw [← hO] at hpl h15 hset
      have hOl : i + m < O.length := by omega
      have hget3 : O[i + m] = .agg [.b (zn (cf o (i + m))), .sl none (uL (zl (cf o (i + m))))] := by rw [List.getElem?_eq_getElem hOl] at hget2; exact Option.some.inj hget2
      clear hget hp hq hget2
      refine WS_seq (WS_reg [] ?_); simp [s5, h15, s16, s17, s18, s1, t23, t24, t25, t6, t7, g7, hlt2, hltI2, hwm, wm, wim, tn, hI1, hI2, hpl, hiN, hget3, hset]
      refine WS_seq ?_
      refine WS_cond (t := true) (by simp [s5, h15, s16, s17, s18, s1, t23, t24, t25, t6, t7, g7, hlt2, hltI2, hwm, wm, wim, tn, hI1, hI2, hpl, hiN, hget3, hset]) (fun _ => ?_) (fun h => by cases h)
      refine WS_skip ?_; simp [s5, h15, s16, s17, s18, s1, t23, t24, t25, t6, t7, g7, hlt2, hltI2, hwm, wm, wim, tn, hI1, hI2, hpl, hiN, hget3, hset]
      refine WS_seq (WS_block (WS_seq (WS_reg [] ?_))); simp [s5, h15, s16, s17, s18, s1, t23, t24, t25, t6, t7, g7, hlt2, hltI2, hwm, wm, wim, tn, hI1, hI2, hpl, hiN, hget3, hset]
      refine WS_regD [] ?_; simp [s5, h15, s16, s17, s18, s1, t23, t24, t25, t6, t7, g7, hlt2, hltI2, hwm, wm, wim, tn, hI1, hI2, hpl, hiN, hget3, hset]
      refine callD mu rfl ?_; simp [s5, h15, s16, s17, s18, s1, t23, t24, t25, t6, t7, g7, hlt2, hltI2, hwm, wm, wim, tn, hI1, hI2, hpl, hiN, hget3, hset]
      refine callD ad rfl ?_; simp [s5, h15, s16, s17, s18, s1, t23, t24, t25, t6, t7, g7, hlt2, hltI2, hwm, wm, wim, tn, hI1, hI2, hpl, hiN, hget3, hset]
      refine ⟨rfl, ?_⟩
      refine WS_reg [] ?_; simp [s5, h15, s16, s17, s18, s1, t23, t24, t25, t6, t7, g7, hlt2, hltI2, hwm, wm, wim, tn, hI1, hI2, hpl, hiN, hget3, hset]
      refine ⟨⟨m + 1, g, by omega, by simp [t23], by simp [t24], by simp, by simp [t6], by simp [t7], by simp [g7], o.set (i + m) q, hst, by simp [s5], by simp [hset], by simp [s16], by simp [s17], by simp [s18], by simp [s1]⟩, ?_⟩
      show ws.length - nM 25 _ < ws.length - nM 25 S'
      rw [d25, nM_eq (i := 25) (n := m + 1) (by simp)]
      omega
    · obtain rfl : m = ws.length := by omega
      have hltI2 : ¬ (ws.length : Int) < (ws.length : Int) := by omega
      have hnx := muR_next (by rw [hlb] at hR; exact hR)
      refine WS_seq (WS_reg [] ?_); simp [s5, h15, s16, s17, s18, s1, t23, t24, t25, t6, t7, g7, hltI2, wi]
      refine WS_seq ?_
      refine WS_cond (t := false) (by simp [s5, h15, s16, s17, s18, s1, t23, t24, t25, t6, t7, g7, hltI2, wi]) (fun h => by cases h) (fun _ => ?_)
      refine WS_exit ?_; simp [s5, h15, s16, s17, s18, s1, t23, t24, t25, t6, t7, g7, hltI2, wi]
      refine WS_reg [] ?_; simp [s5, h15, s16, s17, s18, s1, t23, t24, t25, t6, t7, g7, hltI2, wi]
      refine ⟨⟨i + 1, by omega, o, hnx, by simp [s5], by simp [h15], by simp [s16], by simp [s17], by simp, by simp [s1]⟩, ?_⟩
      show vs.length - nM 18 _ < vs.length - nM 18 S
      rw [d18, nM_eq (i := 18) (n := i + 1) (by simp)]
      omega
  · obtain rfl : i = vs.length := by omega
    have hltI : ¬ (vs.length : Int) < (vs.length : Int) := by omega
    have he := muR_end (by rw [hla] at hR; exact hR)
    have pl : PL (2 ^ 24) o := fun j => by
      have := hR.lim j
      rw [if_neg (by omega)] at this
      omega
    have hpl : (PZ o).length = N := by rw [PZ_length, hR.len]
    have nm := pnorm (isP_PZ pl) (by omega) (by omega)
    rw [tr_of_eqp he] at nm
    obtain ⟨O, hO⟩ : ∃ O, O = PZ o := ⟨_, rfl⟩
    rw [← hO] at hpl h15 nm
    have htk : O.take N = O := List.take_of_length_le (by omega)
    obtain ⟨R, hRR⟩ : ∃ R, R = PZ (tr (mulL a b)) := ⟨_, rfl⟩
    rw [← hRR] at nm ⊢
    refine WS_seq (WS_reg [] ?_); simp [s5, h15, s16, s17, s18, s1, hltI, hpl, htk]
    refine WS_seq ?_
    refine WS_cond (t := false) (by simp [s5, h15, s16, s17, s18, s1, hltI, hpl, htk]) (fun h => by cases h) (fun _ => ?_)
    refine WS_exit ?_; simp [s5, h15, s16, s17, s18, s1, hltI, hpl, htk]
    refine WS_frz 15 5 none ?_
    simp [frzQ, s5, h15, hpl, htk]
    refine WS_seq (WS_reg [] ?_); simp [s5, h15, s16, s17, s18, s1, hltI, hpl, htk]
    refine callK nm ?_; simp [s5, h15, s16, s17, s18, s1, hltI, hpl, htk]
    refine WS_ret ?_; simp [s5, h15, s16, s17, s18, s1, hltI, hpl, htk]
end Go.Vw
set_option linter.unusedVariables false
set_option linter.unusedSimpArgs false
namespace Go.Vw
open Go.Proofs Go.Py

def SaS (l : List Int) (S : St) : Prop := ∃ i : Nat, i ≤ l.length ∧ S.σ 0 = .p (.sl (some 2) (PZ l)) ∧ S.σ 1 = .p (.sl (some 2) (PZ l)) ∧ S.σ 5 = .p (.i .i64 (i : Int))
theorem pl_de {k : Nat} {l : List Int} (h : PL k l) (hl : l.length ≤ 2 ^ 40) : PL (k + 1) (deL l) := fun i => by
  rw [cf_deL]
  by_cases hi : i + 1 < l.length
  · have h1 := zlen_mul ((i : Int) + 1) (cf l (i + 1))
    have h2 := h (i + 1)
    have h3 : zlen ((i : Int) + 1) ≤ 1 := zlen_small (by omega)
    omega
  · rw [cf_ge (l := l) (by omega), Int.mul_zero, zlen_zero]; omega

attribute [local simp] RunL_cons RunL_nil AOp_none AOp_some acK_v acK_call agK_tt agK_ff agK_tf agK_ft agK_tup agK_i aop aun St.ev St.heap St.put thenQ blockQ scopeQ upd_apply S0 argSlot lowV V.cells V.isAgg V.fits V.part partOk plains St.ret retSV svOf svsOf retQ retP retAll retOne uL_length uL_get? uL_get St.elems retH ownIdx ownAt
attribute [local simp] RunD_none RunD_some RunD_nil RunE_any acD_v acD_call agD_tt agD_ff agD_tf agD_ft agD_tup entsOf svref SO.opds SO.writes SO.makes callEnt pureSV pureOf RV.isOwn
attribute [local simp] abin_add abin_sub abin_mul abin_quo abin_rem abin_eql abin_neq abin_lss abin_leq abin_gtr abin_geq
attribute [local simp] uL_snoc uL_set uL_take uL_drop uL_append uL_replicate uL_nil
attribute [local simp] acK_callG acD_callG St.giv gsSV gvSV retEnts ownEnts SO.still
attribute [local simp] S0G argSlotG givSV retQG retPG retAllG retOneG HObj.width V.scalar trimQ V.byte
attribute [local simp] zv V.fits fillOk fillV Z_eq
theorem psame (l : List Int) (hp : PL (2 ^ 40) l) (hn : l.length ≤ 2 ^ 40) : Spec Tryz.prog f_ref10_Same [.sl (some 2) (PZ l), .sl (some 2) (PZ l)] (· = [.pure (.b true)]) := by
  have hpl := PZ_length l
  refine spec_at Tryz.func48 ok_ref10_Same [] rfl (by simp) ?_
  unfold sc_ref10_Same
  refine WS_seq (WS_reg [] ?_); simp [hpl]
  refine WS_seq (WS_seq (WS_reg [] ?_)); simp [hpl]
  refine WS_cond (t := false) (by simp [hpl]) (fun h => by cases h) (fun _ => ?_)
  refine WS_skip ?_; simp [hpl]
  refine WS_seq (WS_seq (WS_reg [] ?_)); simp [hpl]
  refine WS_block ?_
  refine WS_loop (SaS l) (fun S => l.length - nM 5 S) ⟨0, by omega, rfl, rfl, rfl⟩ ?_
  rintro S ⟨i, hi, s0, s1, s5⟩
  have d5 := nM_eq s5
  by_cases hlt : i < l.length
  · have hget := PZ_get l i (by omega)
    have sa := zsame (cf l i) (hp i)
    have hltI : (i : Int) < (l.length : Int) := by omega
    have wi := i64_succ i (by omega)
    obtain ⟨O, hO⟩ : ∃ O, O = PZ l := ⟨_, rfl⟩
    have hOl : i < O.length := by rw [hO, hpl]; exact hlt
    have hg2 : O[i] = .agg [.b (zn (cf l i)), .sl none (uL (zl (cf l i)))] := by simp only [hO]; exact hget
    rw [← hO] at hpl s0 s1
    refine WS_seq (WS_seq (WS_reg [] ?_)); simp [s0, s1, s5, hlt, hltI, hpl, wi, hg2]
    refine WS_cond (t := true) (by simp [s0, s1, s5, hlt, hltI, hpl, wi, hg2]) (fun _ => ?_) (fun h => by cases h)
    refine WS_skip ?_; simp [s0, s1, s5, hlt, hltI, hpl, wi, hg2]
    refine WS_seq (WS_block (WS_seq (WS_regD [] ?_))); simp [s0, s1, s5, hlt, hltI, hpl, wi, hg2]
    refine callD sa rfl ?_; simp [s0, s1, s5, hlt, hltI, hpl, wi, hg2]
    refine ⟨rfl, ?_⟩
    refine WS_cond (t := false) (by simp [s0, s1, s5, hlt, hltI, hpl, wi, hg2]) (fun h => by cases h) (fun _ => ?_)
    refine WS_skip ?_; simp [s0, s1, s5, hlt, hltI, hpl, wi, hg2]
    refine WS_reg [] ?_; simp [s0, s1, s5, hlt, hltI, hpl, wi, hg2]
    refine ⟨⟨i + 1, by omega, by simp [s0, hO], by simp [s1, hO], by simp⟩, ?_⟩
    show l.length - nM 5 _ < l.length - nM 5 S
    rw [d5, nM_eq (i := 5) (n := i + 1) (by simp)]
    omega
  · obtain rfl : i = l.length := by omega
    have hltI : ¬ (l.length : Int) < (l.length : Int) := by omega
    refine WS_seq (WS_seq (WS_reg [] ?_)); simp [s0, s1, s5, hpl, hltI]
    refine WS_cond (t := false) (by simp [s0, s1, s5, hpl, hltI]) (fun h => by cases h) (fun _ => ?_)
    refine WS_exit ?_; simp [s0, s1, s5, hpl, hltI]
    refine WS_seq (WS_reg [] ?_); simp [s0, s1, s5, hpl, hltI]
    refine WS_ret ?_; simp [s0, s1, s5, hpl, hltI]
theorem deriv1 {k : Nat} {v : V} {x : Int} (hv : IsZ k v x) (hk : k ≤ 2 ^ 27) (i : Nat) (hi : i ≤ 2 ^ 40) : Spec Tryz.prog f_zpoly_Deriv_1 [.i .i64 (i : Int), v] (· = [.pure (Z (x * (i : Int)))]) := by
  have o := zof (i : Int) (by omega) (by omega)
  have zl1 : zlen (i : Int) ≤ 1 := zlen_small (by omega)
  have mu := zmul (hv.mono (show k ≤ k + 1 by omega)) (isZ_of (x := (i : Int)) (k := k + 1) (by omega)) (by omega)
  obtain ⟨n, l, rfl, h, hx⟩ := hv
  obtain ⟨y, hy⟩ : ∃ y, y = x * (i : Int) := ⟨_, rfl⟩
  rw [← hy] at mu ⊢
  obtain ⟨z, hz⟩ : ∃ z, z = (i : Int) := ⟨_, rfl⟩
  rw [← hz] at o mu ⊢
  refine spec_at Tryz.func72 ok_zpoly_Deriv_1 [] rfl (by simp) ?_
  unfold sc_zpoly_Deriv_1
  refine WS_seq (WS_reg [] ?_); simp
  refine WS_seq (WS_regD [] ?_); simp
  refine callD o rfl ?_; simp
  refine callD mu rfl ?_; simp
  refine ⟨rfl, ?_⟩
  refine WS_ret ?_; simp
theorem pderiv {k : Nat} {vs : List V} {l : List Int} (hv : IsP k vs l) (hk : k ≤ 2 ^ 20) (hn : vs.length ≤ 2 ^ 40) : Spec Tryz.prog f_zpoly_Deriv [.sl (some 2) vs] (· = [.own 25 (some 2) (PZ (tr (deL l)))]) := by
  have ea := own_plain (each_zz hn (fun i h => by
    obtain ⟨b, d, e, _⟩ := hv.cell i h
    exact ⟨b, d, e⟩) f_zpoly_Deriv_1 [] (fun i => cf l i * (i : Int)) (fun i h => deriv1 (hv.get i h) (by omega) i (by omega)))
  rw [hv.len] at ea
  have hl := hv.len
  obtain ⟨D, hD⟩ : ∃ D, D = (List.range l.length).map fun i => cf l i * (i : Int) := ⟨_, rfl⟩
  have hDl : D.length = l.length := by rw [hD]; simp
  have hde : Eqp (D.drop 1) (deL l) := by rw [hD]; exact deL_range l
  rw [← hD] at ea
  have hdr : (PZ D).drop 1 = PZ (D.drop 1) := by simp [PZ, List.map_drop]
  have pl : PL (k + 1) (D.drop 1) := (pl_de hv.pl (by omega)).eqp hde.symm
  have nm := pnorm (isP_PZ pl) (by omega) (by rw [PZ_length, List.length_drop]; omega)
  rw [tr_of_eqp hde, ← hdr] at nm
  have hPl : (PZ D).length = l.length := by rw [PZ_length, hDl]
  obtain ⟨W, hW⟩ : ∃ W, W = PZ D := ⟨_, rfl⟩
  rw [← hW] at ea nm hPl
  obtain ⟨R, hR⟩ : ∃ R, R = PZ (tr (deL l)) := ⟨_, rfl⟩
  rw [← hR] at nm ⊢
  refine spec_at Tryz.func28 ok_zpoly_Deriv [true] rfl (by simp) ?_
  unfold sc_zpoly_Deriv
  rcases Nat.eq_zero_or_pos l.length with h0 | h0
  · have hW0 : W = [] := List.length_eq_zero_iff.1 (by omega)
    subst hW0
    refine WS_seq (WS_reg [] ?_); simp
    refine WS_seq (WS_reg [] ?_); simp
    refine callK ea ?_; simp
    refine WS_seq (WS_reg [] ?_); simp
    refine callK nm ?_; simp
    refine WS_ret ?_; simp
  · have h1 : (1 : Int) ≤ (l.length : Int) := by omega
    have h2 : (if (1 : Int) < (l.length : Int) then (1 : Int) else (l.length : Int)) = 1 := by split <;> omega
    have h3 : (if 1 < l.length then (1 : Int) else (l.length : Int)) = 1 := by split <;> omega
    have h4 : W.take l.length = W := List.take_of_length_le (by omega)
    rw [List.drop_one] at nm
    refine WS_seq (WS_reg [] ?_); simp [hPl, h1, h2, h3, h4]
    refine WS_seq (WS_reg [] ?_); simp [hPl, h1, h2, h3, h4]
    refine callK ea ?_; simp [hPl, h1, h2, h3, h4]
    refine WS_seq (WS_reg [] ?_); simp [hPl, h1, h2, h3, h4]
    refine callK nm ?_; simp [hPl, h1, h2, h3, h4]
    refine WS_ret ?_; simp [hPl, h1, h2, h3, h4]
end Go.Vw
set_option linter.unusedVariables false
set_option linter.unusedSimpArgs false
namespace Go.Vw
open Go.Proofs Go.Py

theorem gcL_snoc (a : List Int) (x : Int) : gcL (a ++ [x]) = Nat.gcd (gcL a) x.natAbs := by
  induction a with
  | nil => simp [gcL]
  | cons y a ih => rw [List.cons_append, gcL, ih, gcL, Nat.gcd_assoc]
theorem gcL_take (t : List Int) (i : Nat) (h : i < t.length) : gcL (t.take (i + 1)) = Nat.gcd (gcL (t.take i)) (cf t i).natAbs := by
  rw [List.take_succ_eq_append_getElem h, gcL_snoc, cf_lt h]
theorem gcL_len {k : Nat} : ∀ {a : List Int}, PL k a → zlen (gcL a : Int) ≤ k
  | [], _ => by rw [gcL]; show zlen 0 ≤ k; rw [zlen_zero]; omega
  | x :: a, h => by
    have hx : zlen x ≤ k := by have := h 0; rwa [cf_zero] at this
    have ih := gcL_len (a := a) (fun i => by have := h (i + 1); rwa [cf_succ] at this)
    have := gcd_len hx ih
    rw [gcL]
    simpa [Int.gcd] using this
theorem pl_take {k : Nat} {l : List Int} (h : PL k l) (n : Nat) : PL k (l.take n) := fun i => by
  rw [cf_take]
  split
  · exact h i
  · rw [zlen_zero]; omega

def CoS (t : List Int) (S : St) : Prop := ∃ i : Nat, i ≤ t.length ∧ S.σ 0 = .p (.sl (some 2) (PZ t)) ∧ S.σ 9 = .p (.sl (some 2) (PZ t)) ∧ S.σ 10 = .p (.i .i64 (t.length : Int)) ∧ S.σ 11 = .p (.i .i64 (i : Int)) ∧ S.σ 3 = .ptr 3 1 0 ∧
  S.h 3 = ⟨1, some (.box 25 [.b (zn (gcL (t.take i) : Int)), .sl none (uL (zl (gcL (t.take i) : Int)))])⟩ ∧ S.σ 2 = .ptr 2 1 0 ∧ S.h 2 = ⟨1, some (.box 25 [.b false, .sl none []])⟩

attribute [local simp] RunL_cons RunL_nil AOp_none AOp_some acK_v acK_call agK_tt agK_ff agK_tf agK_ft agK_tup agK_i aop aun St.ev St.heap St.put thenQ blockQ scopeQ upd_apply S0 argSlot lowV V.cells V.isAgg V.fits V.part partOk plains St.ret retSV svOf svsOf retQ retP retAll retOne uL_length uL_get? uL_get St.elems retH ownIdx ownAt
attribute [local simp] RunD_none RunD_some RunD_nil RunE_any acD_v acD_call agD_tt agD_ff agD_tf agD_ft agD_tup entsOf svref SO.opds SO.writes SO.makes callEnt pureSV pureOf RV.isOwn
attribute [local simp] abin_add abin_sub abin_mul abin_quo abin_rem abin_eql abin_neq abin_lss abin_leq abin_gtr abin_geq
attribute [local simp] uL_snoc uL_set uL_take uL_drop uL_append uL_replicate uL_nil
attribute [local simp] acK_callG acD_callG St.giv gsSV gvSV retEnts ownEnts SO.still
attribute [local simp] S0G argSlotG givSV retQG retPG retAllG retOneG HObj.width V.scalar trimQ V.byte
attribute [local simp] zv V.fits fillOk fillV Z_eq
set_option maxHeartbeats 1000000 in
theorem pcontent {k : Nat} {vs : List V} {l : List Int} (hv : IsP k vs l) (hk : k ≤ 2 ^ 30) (hn : vs.length ≤ 2 ^ 40) : Spec Tryz.prog f_zpoly_Content [.sl (some 2) vs] (· = [.pure (Z (coL l))]) := by
  have nm := own_plain (pnorm hv (by omega) hn)
  have o0 := zof 0 (by omega) (by omega)
  have pl := pl_tr hv.pl
  have hco : coL l = if cf (tr l) ((tr l).length - 1) < 0 then -(gcL (tr l) : Int) else (gcL (tr l) : Int) := by rw [coL, gcL_eqp (cf_tr l)]
  have htl : (tr l).length ≤ 2 ^ 40 := by have := tr_len l; have := hv.len; omega
  rw [hco]
  obtain ⟨t, ht⟩ : ∃ t, t = tr l := ⟨_, rfl⟩
  rw [← ht] at nm pl htl ⊢
  clear hco ht
  have hpl := PZ_length t
  have hget := fun i h => PZ_get t i h
  obtain ⟨O, hO⟩ : ∃ O, O = PZ t := ⟨_, rfl⟩
  have e0 : zn 0 = false := by decide
  rw [← hO] at hpl nm
  simp only [← hO] at hget
  refine spec_at Tryz.func35 ok_zpoly_Content [] rfl (by simp) ?_
  unfold sc_zpoly_Content
  refine WS_seq (WS_reg [] ?_); simp [hpl]
  refine WS_seq (WS_reg [] ?_); simp [hpl]
  refine callK nm ?_; simp [hpl]
  refine WS_seq (WS_reg [] ?_); simp [hpl]
  refine callK o0 ?_; simp [hpl]
  refine WS_seq (WS_seq (WS_reg [] ?_)); simp [hpl]
  refine WS_block ?_
  refine WS_loop (CoS t) (fun S => t.length - nM 11 S) ⟨0, by omega, by simp [hO], by simp [hO], rfl, rfl, rfl, rfl, rfl, rfl⟩ ?_
  rintro S ⟨i, hi, s0, s9, s10, s11, s3, h3, s2, h2⟩
  rw [← hO] at s0 s9
  have d11 := nM_eq s11
  by_cases hlt : i < t.length
  · have hOl : i < O.length := by omega
    have hg := hget i hOl
    have hltI : (i : Int) < (t.length : Int) := by omega
    have wi := i64_succ i (by omega)
    have gd := zgcd (isZ_of (gcL_len (pl_take pl i))) (isZ_of (pl i)) (by omega)
    have eg : (Int.gcd (gcL (t.take i) : Int) (cf t i) : Int) = (gcL (t.take (i + 1)) : Int) := by rw [gcL_take t i hlt]; simp [Int.gcd]
    rw [eg] at gd
    obtain ⟨a, ha⟩ : ∃ a : Int, a = (gcL (t.take i) : Int) := ⟨_, rfl⟩
    rw [← ha] at gd h3
    obtain ⟨b, hb⟩ : ∃ a : Int, a = (gcL (t.take (i + 1)) : Int) := ⟨_, rfl⟩
    rw [← hb] at gd
    refine WS_seq (WS_reg [] ?_); simp [s0, s9, s10, s11, s3, h3, s2, h2, hlt, hltI, hpl, wi, hg]
    refine WS_seq ?_
    refine WS_cond (t := true) (by simp [s0, s9, s10, s11, s3, h3, s2, h2, hlt, hltI, hpl, wi, hg]) (fun _ => ?_) (fun h => by cases h)
    refine WS_skip ?_; simp [s0, s9, s10, s11, s3, h3, s2, h2, hlt, hltI, hpl, wi, hg]
    refine WS_seq (WS_block (WS_seq (WS_reg [] ?_))); simp [s0, s9, s10, s11, s3, h3, s2, h2, hlt, hltI, hpl, wi, hg]
    refine WS_reg [] ?_; simp [s0, s9, s10, s11, s3, h3, s2, h2, hlt, hltI, hpl, wi, hg]
    refine callK gd ?_; simp [s0, s9, s10, s11, s3, h3, s2, h2, hlt, hltI, hpl, wi, hg]
    refine WS_reg [] ?_; simp [s0, s9, s10, s11, s3, h3, s2, h2, hlt, hltI, hpl, wi, hg]
    refine ⟨⟨i + 1, by omega, by simp [s0, hO], by simp [s9, hO], by simp [s10], by simp, by simp [s3], by simp [hb], by simp [s2], by simp [h2]⟩, ?_⟩
    show t.length - nM 11 _ < t.length - nM 11 S
    rw [d11, nM_eq (i := 11) (n := i + 1) (by simp)]
    omega
  · obtain rfl : i = t.length := by omega
    have hltI : ¬ (t.length : Int) < (t.length : Int) := by omega
    rw [List.take_length] at h3
    have ng := zneg (isZ_of (gcL_len pl)) (by omega)
    obtain ⟨g, hg⟩ : ∃ a : Int, a = (gcL t : Int) := ⟨_, rfl⟩
    rw [← hg] at h3 ng ⊢
    rcases Nat.eq_zero_or_pos t.length with h0 | h0
    · have ht0 : t = [] := List.length_eq_zero_iff.1 h0
      subst ht0
      rw [if_neg (by simp)]
      have hO0 : O = [] := List.length_eq_zero_iff.1 (by rw [hpl]; rfl)
      subst hO0
      refine WS_seq (WS_reg [] ?_); simp [s0, s9, s10, s11, s3, h3, s2, h2, hltI]
      refine WS_seq ?_
      refine WS_cond (t := false) (by simp [s0, s9, s10, s11, s3, h3, s2, h2, hltI]) (fun h => by cases h) (fun _ => ?_)
      refine WS_exit ?_; simp [s0, s9, s10, s11, s3, h3, s2, h2, hltI]
      refine WS_seq (WS_seq (WS_reg [] ?_)); simp [s0, s9, s10, s11, s3, h3, s2, h2, hltI]
      refine WS_cond (t := false) (by simp [s0, s9, s10, s11, s3, h3, s2, h2, hltI]) (fun h => by cases h) (fun _ => ?_)
      refine WS_skip ?_; simp [s0, s9, s10, s11, s3, h3, s2, h2, hltI]
      refine WS_seq (WS_reg [] ?_); simp [s0, s9, s10, s11, s3, h3, s2, h2, hltI]
      refine WS_ret ?_; simp [s0, s9, s10, s11, s3, h3, s2, h2, hltI]
    · have hOl : t.length - 1 < O.length := by omega
      have hgl := hget (t.length - 1) hOl
      have w1 : IntKind.i64.wrap ((t.length : Int) - 1) = (t.length : Int) - 1 := by rw [show (t.length : Int) - 1 = ((t.length - 1 : Nat) : Int) by omega]; exact i64_nat _ (by omega)
      have tn : ((t.length : Int) - 1).toNat = t.length - 1 := by omega
      have hI1 : (1 : Int) ≤ (t.length : Int) := by omega
      have hI2 : (0 : Int) < (t.length : Int) := by omega
      have hI3 : (t.length : Int) - 1 < (t.length : Int) := by omega
      have hI4 : t.length - 1 < t.length := by omega
      have hI5 : (0 : Int) ≤ (t.length : Int) - 1 := by omega
      by_cases hs : cf t (t.length - 1) < 0
      · rw [if_pos hs]
        have hz := zn_true hs
        refine WS_seq (WS_reg [] ?_); simp [s0, s9, s10, s11, s3, h3, s2, h2, hltI, hpl, w1, tn, hI1, hI2, hI3, hI4, hI5, h0, hgl, hz]
        refine WS_seq ?_
        refine WS_cond (t := false) (by simp [s0, s9, s10, s11, s3, h3, s2, h2, hltI, hpl, w1, tn, hI1, hI2, hI3, hI4, hI5, h0, hgl, hz]) (fun h => by cases h) (fun _ => ?_)
        refine WS_exit ?_; simp [s0, s9, s10, s11, s3, h3, s2, h2, hltI, hpl, w1, tn, hI1, hI2, hI3, hI4, hI5, h0, hgl, hz]
        refine WS_seq (WS_seq (WS_reg [] ?_)); simp [s0, s9, s10, s11, s3, h3, s2, h2, hltI, hpl, w1, tn, hI1, hI2, hI3, hI4, hI5, h0, hgl, hz]
        refine WS_cond (t := true) (by simp [s0, s9, s10, s11, s3, h3, s2, h2, hltI, hpl, w1, tn, hI1, hI2, hI3, hI4, hI5, h0, hgl, hz]) (fun _ => ?_) (fun h => by cases h)
        refine WS_seq (WS_reg [] ?_); simp [s0, s9, s10, s11, s3, h3, s2, h2, hltI, hpl, w1, tn, hI1, hI2, hI3, hI4, hI5, h0, hgl, hz]
        refine callK ng ?_; simp [s0, s9, s10, s11, s3, h3, s2, h2, hltI, hpl, w1, tn, hI1, hI2, hI3, hI4, hI5, h0, hgl, hz]
        refine WS_ret ?_; simp [s0, s9, s10, s11, s3, h3, s2, h2, hltI, hpl, w1, tn, hI1, hI2, hI3, hI4, hI5, h0, hgl, hz]
      · rw [if_neg hs]
        have hz := zn_false (show 0 ≤ cf t (t.length - 1) by omega)
        refine WS_seq (WS_reg [] ?_); simp [s0, s9, s10, s11, s3, h3, s2, h2, hltI, hpl, w1, tn, hI1, hI2, hI3, hI4, hI5, h0, hgl, hz]
        refine WS_seq ?_
        refine WS_cond (t := false) (by simp [s0, s9, s10, s11, s3, h3, s2, h2, hltI, hpl, w1, tn, hI1, hI2, hI3, hI4, hI5, h0, hgl, hz]) (fun h => by cases h) (fun _ => ?_)
        refine WS_exit ?_; simp [s0, s9, s10, s11, s3, h3, s2, h2, hltI, hpl, w1, tn, hI1, hI2, hI3, hI4, hI5, h0, hgl, hz]
        refine WS_seq (WS_seq (WS_reg [] ?_)); simp [s0, s9, s10, s11, s3, h3, s2, h2, hltI, hpl, w1, tn, hI1, hI2, hI3, hI4, hI5, h0, hgl, hz]
        refine WS_cond (t := false) (by simp [s0, s9, s10, s11, s3, h3, s2, h2, hltI, hpl, w1, tn, hI1, hI2, hI3, hI4, hI5, h0, hgl, hz]) (fun h => by cases h) (fun _ => ?_)
        refine WS_skip ?_; simp [s0, s9, s10, s11, s3, h3, s2, h2, hltI, hpl, w1, tn, hI1, hI2, hI3, hI4, hI5, h0, hgl, hz]
        refine WS_seq (WS_reg [] ?_); simp [s0, s9, s10, s11, s3, h3, s2, h2, hltI, hpl, w1, tn, hI1, hI2, hI3, hI4, hI5, h0, hgl, hz]
        refine WS_ret ?_; simp [s0, s9, s10, s11, s3, h3, s2, h2, hltI, hpl, w1, tn, hI1, hI2, hI3, hI4, hI5, h0, hgl, hz]
end Go.Vw
set_option linter.unusedVariables false
set_option linter.unusedSimpArgs false
namespace Go.Vw
open Go.Proofs Go.Py

theorem coL_len {k : Nat} {l : List Int} (h : PL k l) : zlen (coL l) ≤ k := by
  have := gcL_len h
  rw [coL]
  split
  · rw [zlen_neg]; exact this
  · exact this
theorem coL_tr (l : List Int) : coL (tr l) = coL l := coL_eqp (cf_tr l)
theorem range_pp (l : List Int) : (List.range (tr l).length).map (fun i => cf (tr l) i / coL l) = ppL l := by
  refine ext_cf (by simp [ppL]) fun i => ?_
  rw [cf_range, cf_ppL, ← cf_tr l i]
  split
  · rfl
  · rw [cf_ge (l := tr l) (by omega), Int.zero_ediv]

attribute [local simp] RunL_cons RunL_nil AOp_none AOp_some acK_v acK_call agK_tt agK_ff agK_tf agK_ft agK_tup agK_i aop aun St.ev St.heap St.put thenQ blockQ scopeQ upd_apply S0 argSlot lowV V.cells V.isAgg V.fits V.part partOk plains St.ret retSV svOf svsOf retQ retP retAll retOne uL_length uL_get? uL_get St.elems retH ownIdx ownAt
attribute [local simp] RunD_none RunD_some RunD_nil RunE_any acD_v acD_call agD_tt agD_ff agD_tf agD_ft agD_tup entsOf svref SO.opds SO.writes SO.makes callEnt pureSV pureOf RV.isOwn
attribute [local simp] abin_add abin_sub abin_mul abin_quo abin_rem abin_eql abin_neq abin_lss abin_leq abin_gtr abin_geq
attribute [local simp] uL_snoc uL_set uL_take uL_drop uL_append uL_replicate uL_nil
attribute [local simp] acK_callG acD_callG St.giv gsSV gvSV retEnts ownEnts SO.still
attribute [local simp] S0G argSlotG givSV retQG retPG retAllG retOneG HObj.width V.scalar trimQ V.byte
attribute [local simp] zv V.fits fillOk fillV Z_eq
theorem prim1 {k : Nat} {v : V} {x c : Int} (hv : IsZ k v x) (hc : zlen c ≤ k) (hk : k ≤ 2 ^ 30) (c0 : c ≠ 0) (hd : c ∣ x) (i : Int) : Spec Tryz.prog f_zpoly_Prim_1 [.i .i64 i, v, .ref (some 2) (.agg [.b (zn c), .sl none (uL (zl c))])] (· = [.pure (Z (x / c))]) := by
  have ex := zexact hv (isZ_of hc) (by omega)
  rw [exactR, if_neg c0, if_pos (Int.emod_eq_zero_of_dvd hd)] at ex
  obtain ⟨n, l, rfl, h, hx⟩ := hv
  obtain ⟨y, hy⟩ : ∃ y, y = x / c := ⟨_, rfl⟩
  rw [← hy] at ex ⊢
  refine spec_at Tryz.func78 ok_zpoly_Prim_1 [] rfl (by simp) ?_
  unfold sc_zpoly_Prim_1
  refine WS_seq (WS_reg [] ?_); simp
  refine WS_seq (WS_reg [] ?_); simp
  refine callK ex ?_; simp
  refine WS_seq (WS_reg [] ?_); simp
  refine WS_ret ?_; simp
theorem pprim {k : Nat} {vs : List V} {l : List Int} (hv : IsP k vs l) (hk : k ≤ 2 ^ 30) (hn : vs.length ≤ 2 ^ 40) : Spec Tryz.prog f_zpoly_Prim [.sl (some 2) vs] (· = [.own 25 (some 2) (PZ (ppL l))]) := by
  have nm := own_plain (pnorm hv (by omega) hn)
  have co := pcontent hv hk hn
  have pl := pl_tr hv.pl
  have htl : (tr l).length ≤ 2 ^ 40 := by have := tr_len l; have := hv.len; omega
  have ip := isP_PZ pl
  have ea := each_zz (vs := PZ (tr l)) (by rw [PZ_length]; exact htl) (fun i h => ⟨_, _, PZ_get _ i h⟩) f_zpoly_Prim_1 [.ref (some 2) (.agg [.b (zn (coL l)), .sl none (uL (zl (coL l)))])] (fun i => cf (tr l) i / coL l) (fun i h => by
    have h' : i < (tr l).length := by rwa [PZ_length] at h
    refine prim1 (ip.get i h) (coL_len hv.pl) hk (fun e => ?_) (by rw [cf_tr]; exact coL_dvd l i) _
    rw [coL_zero.1 e] at h'
    simp at h')
  rw [PZ_length, range_pp] at ea
  obtain ⟨c, hc⟩ : ∃ c, c = coL l := ⟨_, rfl⟩
  rw [← hc] at co ea
  obtain ⟨O, hO⟩ : ∃ O, O = PZ (tr l) := ⟨_, rfl⟩
  rw [← hO] at nm ea
  obtain ⟨R, hR⟩ : ∃ R, R = PZ (ppL l) := ⟨_, rfl⟩
  rw [← hR] at ea ⊢
  refine spec_at Tryz.func37 ok_zpoly_Prim [true] rfl (by simp) ?_
  unfold sc_zpoly_Prim
  refine WS_seq (WS_reg [] ?_); simp
  refine WS_seq (WS_reg [] ?_); simp
  refine callK co ?_; simp
  refine WS_frz 3 3 (some 2) ?_
  simp [frzQ]
  refine WS_seq (WS_reg [] ?_); simp
  refine callK nm ?_; simp
  refine callK ea ?_; simp
  refine WS_ret ?_; simp
end Go.Vw
set_option linter.unusedVariables false
set_option linter.unusedSimpArgs false
namespace Go.Vw
open Go.Proofs Go.Py

def smR (w : Nat) (M : List (Bool × List Nat)) : Bool := M.all fun p => decide (p.2.length ≤ w)
def smB (n w : Nat) (Ms : List (List (Bool × List Nat))) : Bool := Ms.all fun M => decide (M.length ≤ n) && smR w M
def mL (Ms : List (List (Bool × List Nat))) : List V := Ms.map fun M => .sl (some 2) (zL M)
theorem smB_false {n w : Nat} {Ms : List (List (Bool × List Nat))} {M : List (Bool × List Nat)} (hM : M ∈ Ms) (h : (decide (M.length ≤ n) && smR w M) = false) : smB n w Ms = false := by
  rw [smB, List.all_eq_false]
  exact ⟨M, hM, by rw [h]; simp⟩
theorem smB_snoc {n w : Nat} {Ms : List (List (Bool × List Nat))} {M : List (Bool × List Nat)} (h : smB n w Ms = true) (h1 : M.length ≤ n) (h2 : smR w M = true) : smB n w (Ms ++ [M]) = true := by
  rw [smB] at h ⊢
  rw [List.all_append, h]
  simp [h1, h2]
theorem smR_snoc {w : Nat} {M : List (Bool × List Nat)} {p : Bool × List Nat} (h : smR w M = true) (h1 : p.2.length ≤ w) : smR w (M ++ [p]) = true := by
  rw [smR] at h ⊢
  rw [List.all_append, h]
  simp [h1]

def SmK (n w : Nat) (Ms : List (List (Bool × List Nat))) (i : Nat) (S : St) : Prop := S.σ 0 = .p (.i .i64 (n : Int)) ∧ S.σ 1 = .p (.i .i64 (w : Int)) ∧ S.σ 2 = .p (.sl none (mL Ms)) ∧ S.σ 7 = .p (.i .i64 (i : Int)) ∧ smB n w (Ms.take i) = true
def SmS (n w : Nat) (Ms : List (List (Bool × List Nat))) (S : St) : Prop := ∃ i : Nat, i ≤ Ms.length ∧ SmK n w Ms i S
def SmJ (n w : Nat) (Ms : List (List (Bool × List Nat))) (i : Nat) (M : List (Bool × List Nat)) (S : St) : Prop := ∃ k : Nat, k ≤ M.length ∧ S.σ 8 = .p (.i .i64 (k : Int)) ∧ smR w (M.take k) = true ∧ SmK n w Ms i S

attribute [local simp] RunL_cons RunL_nil AOp_none AOp_some acK_v acK_call agK_tt agK_ff agK_tf agK_ft agK_tup agK_i aop aun St.ev St.heap St.put thenQ blockQ scopeQ upd_apply S0 argSlot lowV V.cells V.isAgg V.fits V.part partOk plains St.ret retSV svOf svsOf retQ retP retAll retOne uL_length uL_get? uL_get St.elems retH ownIdx ownAt
attribute [local simp] RunD_none RunD_some RunD_nil RunE_any acD_v acD_call agD_tt agD_ff agD_tf agD_ft agD_tup entsOf svref SO.opds SO.writes SO.makes callEnt pureSV pureOf RV.isOwn
attribute [local simp] abin_add abin_sub abin_mul abin_quo abin_rem abin_eql abin_neq abin_lss abin_leq abin_gtr abin_geq
attribute [local simp] uL_snoc uL_set uL_take uL_drop uL_append uL_replicate uL_nil
attribute [local simp] acK_callG acD_callG St.giv gsSV gvSV retEnts ownEnts SO.still
attribute [local simp] S0G argSlotG givSV retQG retPG retAllG retOneG HObj.width V.scalar trimQ V.byte
attribute [local simp] zv V.fits fillOk fillV Z_eq
end Go.Vw
set_option linter.unusedVariables false
set_option linter.unusedSimpArgs false
namespace Go.Vw
open Go.Proofs Go.Py

def ShC (n : Nat) (s : Bool) (d : List Nat) (o : List Int) (i : Nat) (S : St) : Prop := S.σ 5 = .own 9 1 0 n ∧ S.h 9 = ⟨1, some (.arr 25 (some 2) (PZ o))⟩ ∧ S.σ 11 = .p (.i .i64 (n : Int)) ∧ S.σ 12 = .p (.i .i64 (i : Int)) ∧ S.σ 3 = .ptr 3 1 0 ∧ S.h 3 = ⟨1, some (.box 25 [.b s, .sl none (uL d)])⟩
def ShS (n : Nat) (b : Bool) (d : List Nat) (k L : Nat) (s : Int) (t : List Int) (S : St) : Prop := ∃ pre suf : List Int, pre.length + suf.length = n ∧ pre ++ spL s suf.length suf = spL s n t ∧ PL (k + pre.length * L) (pre ++ suf) ∧ ShC n b d (pre ++ suf) pre.length S
def ShJ (n : Nat) (b : Bool) (d : List Nat) (s : Int) (pre suf : List Int) (S : St) : Prop := ∃ (m : Nat) (o : List Int), pre.length ≤ m ∧ m + 1 ≤ n ∧ ShR s pre suf o m ∧ S.σ 6 = .p (.i .i64 (pre.length : Int)) ∧ S.σ 7 = .p (.i .i64 ((m : Int) - 1)) ∧ ShC n b d o pre.length S

attribute [local simp] RunL_cons RunL_nil AOp_none AOp_some acK_v acK_call agK_tt agK_ff agK_tf agK_ft agK_tup agK_i aop aun St.ev St.heap St.put thenQ blockQ scopeQ upd_apply S0 argSlot lowV V.cells V.isAgg V.fits V.part partOk plains St.ret retSV svOf svsOf retQ retP retAll retOne uL_length uL_get? uL_get St.elems retH ownIdx ownAt
attribute [local simp] RunD_none RunD_some RunD_nil RunE_any acD_v acD_call agD_tt agD_ff agD_tf agD_ft agD_tup entsOf svref SO.opds SO.writes SO.makes callEnt pureSV pureOf RV.isOwn
attribute [local simp] abin_add abin_sub abin_mul abin_quo abin_rem abin_eql abin_neq abin_lss abin_leq abin_gtr abin_geq
attribute [local simp] uL_snoc uL_set uL_take uL_drop uL_append uL_replicate uL_nil
attribute [local simp] acK_callG acD_callG St.giv gsSV gvSV retEnts ownEnts SO.still
attribute [local simp] S0G argSlotG givSV retQG retPG retAllG retOneG HObj.width V.scalar trimQ V.byte
attribute [local simp] zv V.fits fillOk fillV Z_eq
set_option maxHeartbeats 1000000 in
theorem pshift {k j : Nat} {vs : List V} {l : List Int} {v : V} {s : Int} (hv : IsP k vs l) (hx : IsZ j v s) (hk : k ≤ 2 ^ 20) (hj : j ≤ 2 ^ 20) (hn : vs.length ≤ 2 ^ 20) (hb : vs.length * (vs.length * (j + 1)) ≤ 2 ^ 24) :
    Spec Tryz.prog f_zpoly_Shift [.sl (some 2) vs, v] (· = [.own 25 (some 2) (PZ (tr (shL s l)))]) := by
  have nm := pnorm hv (by omega) (by omega)
  have xl := hx.zlen
  have hx2 := hx
  have pl := pl_tr hv.pl
  have hres : spL s (tr l).length (tr l) = tr (shL s l) := (spL_tr s (tr_tr l)).trans (tr_of_eqp (shL_eqp s (cf_tr l)))
  have htl : (tr l).length ≤ vs.length := by have := tr_len l; have := hv.len; omega
  rw [← hres]
  obtain ⟨t, ht⟩ : ∃ t, t = tr l := ⟨_, rfl⟩
  rw [← ht] at nm pl htl ⊢
  clear hres
  obtain ⟨n, hnn⟩ : ∃ n, n = t.length := ⟨_, rfl⟩
  rw [← hnn] at htl ⊢
  obtain ⟨L, hL⟩ : ∃ L, L = n * (j + 1) := ⟨_, rfl⟩
  have hnL : n * L ≤ 2 ^ 24 := by
    rw [hL]
    exact Nat.le_trans (Nat.mul_le_mul htl (Nat.mul_le_mul_right _ htl)) hb
  obtain ⟨b, d, rfl, hd, hxd⟩ := hx
  have hpl := PZ_length t
  rw [← hnn] at hpl
  refine spec_at Tryz.func33 ok_zpoly_Shift [true] rfl (by simp) ?_
  unfold sc_zpoly_Shift
  refine WS_seq (WS_reg [] ?_); simp [hpl]
  refine WS_seq (WS_reg [] ?_); simp [hpl]
  refine callK nm ?_; simp [hpl]
  refine WS_seq (WS_seq (WS_reg [] ?_)); simp [hpl]
  refine WS_block ?_
  refine WS_loop (ShS n b d k L s t) (fun S => n - nM 12 S) ⟨[], t, by simp [hnn], by simp [hnn], by simpa using pl, rfl, by simp, rfl, rfl, rfl, rfl⟩ ?_
  rintro S ⟨pre, suf, hlen, hsp, hpl2, s5, h9, s11, s12, s3, h3⟩
  have d12 := nM_eq s12
  have hOl : (PZ (pre ++ suf)).length = n := by rw [PZ_length]; simp; omega
  by_cases hlt : pre.length < n
  · have hs0 : suf ≠ [] := by intro h; rw [h] at hlen; simp at hlen; omega
    have hltI : (pre.length : Int) < (n : Int) := by omega
    obtain ⟨m0, hm0⟩ : ∃ m0, m0 + 1 = n := ⟨n - 1, by omega⟩
    have w2 : IntKind.i64.wrap ((n : Int) - 2) = (m0 : Int) - 1 := by
      rw [show (n : Int) - 2 = (m0 : Int) - 1 by omega]
      rcases Nat.eq_zero_or_pos m0 with h | h
      · rw [h]; decide
      · rw [show (m0 : Int) - 1 = ((m0 - 1 : Nat) : Int) by omega]; exact i64_nat _ (by omega)
    have wi := i64_succ pre.length (by omega)
    have hf := shR_first (s := s) (pre := pre) hs0
    rw [show pre.length + suf.length - 1 = m0 by omega] at hf
    obtain ⟨Q, hQ⟩ : ∃ q, q = pre.length * L := ⟨_, rfl⟩
    have hQ2 : Q + L ≤ 2 ^ 24 := by
      have := Nat.mul_le_mul_right L (show pre.length + 1 ≤ n by omega)
      rw [Nat.succ_mul] at this
      omega
    have hsL : suf.length * (j + 1) ≤ L := by rw [hL]; exact Nat.mul_le_mul_right _ (by omega)
    rw [← hQ] at hpl2
    have hob : ∀ (m : Nat) (o : List Int), ShR s pre suf o m → PL (k + Q + L) o := by
      intro m o hR i
      rw [hR.val]
      split
      · have := hpl2 i; omega
      · have h0 := hpl2 i
        rw [cf_append] at h0 ⊢
        split
        · rename_i h; rw [if_pos h] at h0; omega
        · rw [cf_paL_ev]
          have hps : PL (k + Q) suf := fun i => by
            have := hpl2 (pre.length + i)
            rw [cf_append, if_neg (by omega), Nat.add_sub_cancel_left] at this
            exact this
          have h1 := evl_len xl (pl_drop hps (i - pre.length))
          have h2 : (suf.drop (i - pre.length)).length * (j + 1) ≤ suf.length * (j + 1) := Nat.mul_le_mul_right _ (by simp)
          omega
    obtain ⟨O, hO⟩ : ∃ O, O = PZ (pre ++ suf) := ⟨_, rfl⟩
    rw [← hO] at hOl h9
    refine WS_seq (WS_reg [] ?_); simp [s5, h9, s11, s12, s3, h3, hltI, hlt, hOl, w2]
    refine WS_seq ?_
    refine WS_cond (t := true) (by simp [s5, h9, s11, s12, s3, h3, hltI, hlt, hOl, w2]) (fun _ => ?_) (fun h => by cases h)
    refine WS_skip ?_; simp [s5, h9, s11, s12, s3, h3, hltI, hlt, hOl, w2]
    refine WS_seq (WS_block (WS_seq (WS_reg [] ?_))); simp [s5, h9, s11, s12, s3, h3, hltI, hlt, hOl, w2]
    refine WS_seq (WS_reg [] ?_); simp [s5, h9, s11, s12, s3, h3, hltI, hlt, hOl, w2]
    refine WS_block ?_
    refine WS_loop (ShJ n b d s pre suf) (dnM 7) ⟨m0, pre ++ suf, by omega, by omega, hf, by simp, by simp, by simp [s5], by simp [h9, hO], by simp [s11], by simp [s12], by simp [s3], by simp [h3]⟩ ?_
    clear s5 h9 s11 s12 s3 h3 hO hOl O
    rintro S' ⟨m, o, hm1, hm2, hR, s6, s7, s5, h9, s11, s12, s3, h3⟩
    have d7 := dnM_eq s7
    have hol := hob m o hR
    have hOl : (PZ o).length = n := by rw [PZ_length, hR.len]; exact hlen
    by_cases hgo : pre.length < m
    · obtain ⟨m1, rfl⟩ : ∃ m1, m = m1 + 1 := ⟨m - 1, by omega⟩
      have e1 : ((m1 + 1 : Nat) : Int) - 1 = (m1 : Int) := by omega
      rw [e1] at s7
      have hst := shR_step hR hgo (by omega)
      rw [Nat.add_sub_cancel] at hst
      have mu := zmul (hx2.mono (show j ≤ 2 ^ 26 by omega)) (isZ_of (x := cf o (m1 + 1)) (k := 2 ^ 26) (by have := hol (m1 + 1); omega)) (by omega)
      have ml := zlen_mul s (cf o (m1 + 1))
      have b1 := hol m1
      have b2 := hol (m1 + 1)
      have ad := zadd (isZ_of (x := cf o m1) (k := 2 ^ 27) (by omega)) (isZ_of (x := s * cf o (m1 + 1)) (k := 2 ^ 27) (by omega)) (by omega)
      have hg1 := PZ_get o m1 (by omega)
      have hg2 := PZ_get o (m1 + 1) (by omega)
      have hset := PZ_set o m1 (cf o m1 + s * cf o (m1 + 1))
      rw [Z_eq] at hset
      obtain ⟨q, hq⟩ : ∃ q, q = cf o m1 + s * cf o (m1 + 1) := ⟨_, rfl⟩
      rw [← hq] at hst ad hset
      obtain ⟨p, hp⟩ : ∃ q, q = s * cf o (m1 + 1) := ⟨_, rfl⟩
      rw [← hp] at mu ad
      obtain ⟨O, hO⟩ : ∃ O, O = PZ o := ⟨_, rfl⟩
      simp only [← hO] at hg1 hg2
      rw [← hO] at hOl h9 hset
      have hi1 : m1 < n := by omega
      have hi2 : m1 + 1 < n := by omega
      have hgoI : (pre.length : Int) ≤ (m1 : Int) := by omega
      have hgoN : pre.length ≤ m1 := by omega
      have wm := i64_succ m1 (by omega)
      have w3 : IntKind.i64.wrap ((m1 : Int) - 1) = (m1 : Int) - 1 := by
        rcases Nat.eq_zero_or_pos m1 with h | h
        · rw [h]; decide
        · rw [show (m1 : Int) - 1 = ((m1 - 1 : Nat) : Int) by omega]; exact i64_nat _ (by omega)
      refine WS_seq (WS_seq (WS_reg [] ?_)); simp [s5, h9, s11, s12, s3, h3, s6, s7, hgoI, hgoN, hOl, hi1, hi2, hg1, hg2, wm, w3, hset]
      refine WS_cond (t := true) (by simp [s5, h9, s11, s12, s3, h3, s6, s7, hgoI, hgoN, hOl, hi1, hi2, hg1, hg2, wm, w3, hset]) (fun _ => ?_) (fun h => by cases h)
      refine WS_skip ?_; simp [s5, h9, s11, s12, s3, h3, s6, s7, hgoI, hgoN, hOl, hi1, hi2, hg1, hg2, wm, w3, hset]
      refine WS_seq (WS_block (WS_regD [] ?_)); simp [s5, h9, s11, s12, s3, h3, s6, s7, hgoI, hgoN, hOl, hi1, hi2, hg1, hg2, wm, w3, hset]
      refine ⟨by omega, ?_⟩
      refine callD mu rfl ?_; simp [s5, h9, s11, s12, s3, h3, s6, s7, hgoI, hgoN, hOl, hi1, hi2, hg1, hg2, wm, w3, hset]
      refine callD ad rfl ?_; simp [s5, h9, s11, s12, s3, h3, s6, s7, hgoI, hgoN, hOl, hi1, hi2, hg1, hg2, wm, w3, hset]
      refine ⟨rfl, ?_⟩
      refine WS_reg [] ?_; simp [s5, h9, s11, s12, s3, h3, s6, s7, hgoI, hgoN, hOl, hi1, hi2, hg1, hg2, wm, w3, hset]
      refine ⟨⟨m1, o.set m1 q, hgoN, by omega, hst, by simp [s6], by simp, by simp [s5], by simp [hset], by simp [s11], by simp [s12], by simp [s3], by simp [h3]⟩, ?_⟩
      rw [d7, dnM_eq (i := 7) (k := m1) (by simp)]
      omega
    · have hgoI : ¬ (pre.length : Int) ≤ (m : Int) - 1 := by omega
      have hend := shR_end hR (by omega)
      obtain ⟨x, r, p1, p2, p3, p4⟩ := spL_pass (s := s) (pre := pre) hs0
      rw [p3] at hend
      refine WS_seq (WS_seq (WS_reg [] ?_)); simp [s5, h9, s11, s12, s3, h3, s6, s7, hgoI, wi]
      refine WS_cond (t := false) (by simp [s5, h9, s11, s12, s3, h3, s6, s7, hgoI, wi]) (fun h => by cases h) (fun _ => ?_)
      refine WS_exit ?_; simp [s5, h9, s11, s12, s3, h3, s6, s7, hgoI, wi]
      refine WS_reg [] ?_; simp [s5, h9, s11, s12, s3, h3, s6, s7, hgoI, wi]
      refine ⟨⟨pre ++ [x], r, by simp; omega, by rw [← hsp, ← p4], ?_, by simp [s5], by simp [h9, hend], by simp [s11], by simp, by simp [s3], by simp [h3]⟩, ?_⟩
      · rw [← hend, List.length_append, List.length_singleton, Nat.succ_mul, ← hQ, ← Nat.add_assoc]
        exact hol
      · show n - nM 12 _ < n - nM 12 S
        rw [d12, nM_eq (i := 12) (n := pre.length + 1) (by simp)]
        omega
  · have hltI : ¬ (pre.length : Int) < (n : Int) := by omega
    have hs0 : suf = [] := List.length_eq_zero_iff.1 (by omega)
    subst hs0
    have hfin : pre ++ [] = spL s n t := by rw [← hsp]; rfl
    rw [hfin] at h9 hOl
    have htk : (PZ (spL s n t)).take n = PZ (spL s n t) := List.take_of_length_le (by omega)
    obtain ⟨R, hR⟩ : ∃ R, R = PZ (spL s n t) := ⟨_, rfl⟩
    rw [← hR] at h9 hOl htk ⊢
    refine WS_seq (WS_reg [] ?_); simp [s5, h9, s11, s12, s3, h3, hltI, hOl, htk]
    refine WS_seq ?_
    refine WS_cond (t := false) (by simp [s5, h9, s11, s12, s3, h3, hltI, hOl, htk]) (fun h => by cases h) (fun _ => ?_)
    refine WS_exit ?_; simp [s5, h9, s11, s12, s3, h3, hltI, hOl, htk]
    refine WS_seq (WS_reg [] ?_); simp [s5, h9, s11, s12, s3, h3, hltI, hOl, htk]
    refine WS_ret ?_; simp [s5, h9, s11, s12, s3, h3, hltI, hOl, htk]
end Go.Vw
set_option linter.unusedVariables false
set_option linter.unusedSimpArgs false
namespace Go.Vw
open Go.Proofs Go.Py

def RnS (vs : List V) (l : List Int) (S : St) : Prop := ∃ m : Nat, m ≤ vs.length ∧ S.σ 0 = .p (.sl (some 2) vs) ∧ S.σ 3 = .p (.i .i64 (m : Int)) ∧ ∀ i, m ≤ i → cf l i = 0
def RnJ (vs : List V) (l : List Int) (m : Nat) (S : St) : Prop := ∃ i g : Nat, i ≤ m ∧ S.σ 0 = .p (.sl (some 2) vs) ∧ S.σ 3 = .p (.i .i64 (m : Int)) ∧ S.σ 5 = .p (.i .i64 (i : Int)) ∧ S.σ 4 = .own 4 g 0 i ∧ S.h 4 = ⟨g, some (.arr 25 (some 2) (PZ (l.take i)))⟩

attribute [local simp] RunL_cons RunL_nil AOp_none AOp_some acK_v acK_call agK_tt agK_ff agK_tf agK_ft agK_tup agK_i aop aun St.ev St.heap St.put thenQ blockQ scopeQ upd_apply S0 argSlot lowV V.cells V.isAgg V.fits V.part partOk plains St.ret retSV svOf svsOf retQ retP retAll retOne uL_length uL_get? uL_get St.elems retH ownIdx ownAt
attribute [local simp] RunD_none RunD_some RunD_nil RunE_any acD_v acD_call agD_tt agD_ff agD_tf agD_ft agD_tup entsOf svref SO.opds SO.writes SO.makes callEnt pureSV pureOf RV.isOwn
attribute [local simp] abin_add abin_sub abin_mul abin_quo abin_rem abin_eql abin_neq abin_lss abin_leq abin_gtr abin_geq
attribute [local simp] uL_snoc uL_set uL_take uL_drop uL_append uL_replicate uL_nil
attribute [local simp] acK_callG acD_callG St.giv gsSV gvSV retEnts ownEnts SO.still
attribute [local simp] S0G argSlotG givSV retQG retPG retAllG retOneG HObj.width V.scalar trimQ V.byte
attribute [local simp] zv V.fits fillOk fillV Z_eq
set_option maxHeartbeats 1000000 in
theorem rnorm10 {k : Nat} {vs : List V} {l : List Int} (hv : IsP k vs l) (hk : k ≤ 2 ^ 40) (hn : vs.length ≤ 2 ^ 40) : Spec Tryz.prog f_ref10_Norm [.sl (some 2) vs] (· = [.own 25 (some 2) (PZ (tr l))]) := by
  have hlen := hv.len
  refine spec_at Tryz.func11 ok_ref10_Norm [true] rfl (by simp) ?_
  unfold sc_ref10_Norm
  refine WS_seq (WS_reg [] ?_); simp
  refine WS_seq (WS_reg [] ?_); simp
  refine WS_seq (WS_block ?_)
  refine WS_loop (RnS vs l) (nM 3) ⟨vs.length, Nat.le_refl _, rfl, rfl, fun i hi => cf_ge (by omega)⟩ ?_
  rintro S ⟨m, hm, s0, s3, hz⟩
  have d3 := nM_eq s3
  have rest : (m = 0 ∨ cf l (m - 1) ≠ 0) → ∀ S' : St, S'.σ 0 = .p (.sl (some 2) vs) → S'.σ 3 = .p (.i .i64 (m : Int)) → WS Tryz.prog 35 sc_ref10_Norm.snd.snd.snd (retQ [.tmp 2] [true] (· = [.own 25 (some 2) (PZ (tr l))])) S' := by
    intro h S' t0 t3
    have htr := tr_take (l := l) (m := m) (by omega) hz h
    unfold sc_ref10_Norm
    simp only [SC.snd]
    refine WS_seq (WS_reg [4] ?_); simp [t0, t3]
    refine WS_seq (WS_seq (WS_reg [] ?_)); simp [t0, t3]
    refine WS_block ?_
    refine WS_loop (RnJ vs l m) (fun S => m - nM 5 S) ⟨0, (S'.h 4).g + 1, by omega, by simp [t0], by simp [t3], by simp, by simp, by simp [PZ]⟩ ?_
    clear t0 t3
    rintro T ⟨i, g, hi, t0, t3, t5, t4, g4⟩
    have d5 := nM_eq t5
    have hil : i ≤ l.length := by omega
    by_cases hlt : i < m
    · have hiv : i < vs.length := by omega
      obtain ⟨b, d, hvi, hzw, hzi⟩ := hv.cell i hiv
      have nm := rnorm (isZ_zv (n := b) hzw) hk
      rw [hzi] at nm
      have hltI : (i : Int) < (m : Int) := by omega
      have wi := i64_succ i (by omega)
      have htk : l.take (i + 1) = l.take i ++ [cf l i] := by rw [List.take_succ_eq_append_getElem (by omega), cf_lt (by omega)]
      have hpl : (PZ (l.take i)).length = i := by rw [PZ_length, List.length_take]; omega
      have hsn := PZ_snoc (l.take i) (cf l i)
      rw [← htk, Z_eq] at hsn
      obtain ⟨O, hO⟩ : ∃ O, O = PZ (l.take i) := ⟨_, rfl⟩
      rw [← hO] at hpl hsn g4
      have hto : O.take i = O := List.take_of_length_le (by omega)
      refine WS_seq (WS_seq (WS_reg [] ?_)); simp [t0, t3, t5, t4, g4, hlt, hltI, hiv, hvi, wi, hpl, hto]
      refine WS_cond (t := true) (by simp [t0, t3, t5, t4, g4, hlt, hltI, hiv, hvi, wi, hpl, hto]) (fun _ => ?_) (fun h => by cases h)
      refine WS_skip ?_; simp [t0, t3, t5, t4, g4, hlt, hltI, hiv, hvi, wi, hpl, hto]
      refine WS_seq (WS_block (WS_reg [] ?_)); simp [t0, t3, t5, t4, g4, hlt, hltI, hiv, hvi, wi, hpl, hto]
      refine callK nm ?_; simp [t0, t3, t5, t4, g4, hlt, hltI, hiv, hvi, wi, hpl, hto]
      refine ⟨by omega, ?_⟩
      refine WS_reg [] ?_; simp [t0, t3, t5, t4, g4, hlt, hltI, hiv, hvi, wi, hpl, hto]
      refine ⟨⟨i + 1, g + 1, by omega, by simp [t0], by simp [t3], by simp, by simp, by simp [hsn]⟩, ?_⟩
      show m - nM 5 _ < m - nM 5 T
      rw [d5, nM_eq (i := 5) (n := i + 1) (by simp)]
      omega
    · obtain rfl : i = m := by omega
      have hltI : ¬ (i : Int) < (i : Int) := by omega
      rw [← htr] at g4
      have hpl : (PZ (tr l)).length = i := by rw [PZ_length, htr, List.length_take]; omega
      obtain ⟨O, hO⟩ : ∃ O, O = PZ (tr l) := ⟨_, rfl⟩
      rw [← hO] at hpl g4 ⊢
      have hto : O.take i = O := List.take_of_length_le (by omega)
      refine WS_seq (WS_seq (WS_reg [] ?_)); simp [t0, t3, t5, t4, g4, hltI, hpl, hto]
      refine WS_cond (t := false) (by simp [t0, t3, t5, t4, g4, hltI, hpl, hto]) (fun h => by cases h) (fun _ => ?_)
      refine WS_exit ?_; simp [t0, t3, t5, t4, g4, hltI, hpl, hto]
      refine WS_seq (WS_reg [] ?_); simp [t0, t3, t5, t4, g4, hltI, hpl, hto]
      refine WS_ret ?_; simp [t0, t3, t5, t4, g4, hltI, hpl, hto]
  unfold sc_ref10_Norm at rest
  simp only [SC.snd] at rest
  cases m with
  | zero =>
    refine WS_seq (WS_seq (WS_reg [] ?_)); simp [s0, s3]
    refine WS_cond (t := false) (by simp [s0, s3]) (fun h => by cases h) (fun _ => ?_)
    refine WS_exit ?_; simp [s0, s3]
    refine rest (.inl rfl) _ ?_ ?_
    · simp [s0]
    · simp [s3]
  | succ j =>
    have hj : j < vs.length := by omega
    obtain ⟨b, d, hvj, hzw, hzi⟩ := hv.cell j hj
    have sg := rsign (isZ_zv (n := b) hzw) hk
    rw [hzi] at sg
    have w1 := i64_nat j (by omega)
    have hjI : (j : Int) < (vs.length : Int) := by omega
    by_cases h0 : cf l j = 0
    · rw [h0, Int.sign_zero] at sg
      refine WS_seq (WS_seq (WS_reg [] ?_)); simp [s0, s3, w1, hj, hjI, hvj]
      refine callK sg ?_; simp [s0, s3, w1, hj, hjI, hvj]
      refine WS_cond (t := true) (by simp [s0, s3, w1, hj, hjI, hvj]) (fun _ => ?_) (fun h => by cases h)
      refine WS_skip ?_; simp [s0, s3, w1, hj, hjI, hvj]
      refine WS_block (WS_reg [] ?_); simp [s0, s3, w1, hj, hjI, hvj]
      refine ⟨⟨j, by omega, by simp [s0], by simp, fun i hi => ?_⟩, ?_⟩
      · rcases Nat.lt_or_ge j i with h | h
        · exact hz i h
        · rw [show i = j by omega]; exact h0
      · rw [d3, nM_eq (i := 3) (n := j) (by simp)]
        omega
    · have hs : ¬ (cf l j).sign = 0 := by rw [Int.sign_eq_zero_iff_zero]; exact h0
      refine WS_seq (WS_seq (WS_reg [] ?_)); simp [s0, s3, w1, hj, hjI, hvj, hs]
      refine callK sg ?_; simp [s0, s3, w1, hj, hjI, hvj, hs]
      refine WS_cond (t := false) (by simp [s0, s3, w1, hj, hjI, hvj, hs]) (fun h => by cases h) (fun _ => ?_)
      refine WS_exit ?_; simp [s0, s3, w1, hj, hjI, hvj, hs]
      refine rest (.inr h0) _ ?_ ?_
      · simp [s0]
      · simp [s3]
end Go.Vw
set_option linter.unusedVariables false
set_option linter.unusedSimpArgs false
namespace Go.Vw
open Go.Proofs Go.Py

theorem scL_take (c : Int) (l : List Int) (i : Nat) (h : i < l.length) : scL c (l.take (i + 1)) = scL c (l.take i) ++ [c * cf l i] := by
  rw [List.take_succ_eq_append_getElem h, cf_lt h, scL, List.map_append]; rfl
def RsJ (vs : List V) (l : List Int) (c : Int) (b : Bool) (d : List Nat) (S : St) : Prop := ∃ i g : Nat, i ≤ vs.length ∧ S.σ 0 = .p (.sl (some 2) vs) ∧ S.σ 6 = .p (.i .i64 (i : Int)) ∧ S.σ 5 = .own 5 g 0 i ∧ S.h 5 = ⟨g, some (.arr 25 (some 2) (PZ (scL c (l.take i))))⟩ ∧ S.σ 3 = .ptr 3 1 0 ∧ S.h 3 = ⟨1, some (.box 25 [.b b, .sl none (uL d)])⟩

attribute [local simp] RunL_cons RunL_nil AOp_none AOp_some acK_v acK_call agK_tt agK_ff agK_tf agK_ft agK_tup agK_i aop aun St.ev St.heap St.put thenQ blockQ scopeQ upd_apply S0 argSlot lowV V.cells V.isAgg V.fits V.part partOk plains St.ret retSV svOf svsOf retQ retP retAll retOne uL_length uL_get? uL_get St.elems retH ownIdx ownAt
attribute [local simp] RunD_none RunD_some RunD_nil RunE_any acD_v acD_call agD_tt agD_ff agD_tf agD_ft agD_tup entsOf svref SO.opds SO.writes SO.makes callEnt pureSV pureOf RV.isOwn
attribute [local simp] abin_add abin_sub abin_mul abin_quo abin_rem abin_eql abin_neq abin_lss abin_leq abin_gtr abin_geq
attribute [local simp] uL_snoc uL_set uL_take uL_drop uL_append uL_replicate uL_nil
attribute [local simp] acK_callG acD_callG St.giv gsSV gvSV retEnts ownEnts SO.still
attribute [local simp] S0G argSlotG givSV retQG retPG retAllG retOneG HObj.width V.scalar trimQ V.byte
attribute [local simp] zv V.fits fillOk fillV Z_eq
set_option maxHeartbeats 1000000 in
theorem rscale10 {k j : Nat} {vs : List V} {l : List Int} {v : V} {c : Int} (hv : IsP k vs l) (hc : IsZ j v c) (hk : k ≤ 2 ^ 26) (hj : j ≤ 2 ^ 26) (hn : vs.length ≤ 2 ^ 40) : Spec Tryz.prog f_ref10_Scale [.sl (some 2) vs, v] (· = [.own 25 (some 2) (PZ (tr (scL c l)))]) := by
  have hlen := hv.len
  have hcl := hc.zlen
  have hc2 := hc
  obtain ⟨b, d, rfl, hd, hcd⟩ := hc
  have hsl : (scL c l).length = vs.length := by rw [hlen]; simp [scL]
  have nm := rnorm10 (isP_PZ (pl_sc (c := c) hv.pl hcl)) (by omega) (by rw [PZ_length, hsl]; exact hn)
  refine spec_at Tryz.func19 ok_ref10_Scale [true] rfl (by simp) ?_
  unfold sc_ref10_Scale
  refine WS_seq (WS_reg [] ?_); simp
  refine WS_seq (WS_reg [5] ?_); simp
  refine WS_seq (WS_seq (WS_reg [] ?_)); simp
  refine WS_block ?_
  refine WS_loop (RsJ vs l c b d) (fun S => vs.length - nM 6 S) ⟨0, 1, by omega, rfl, rfl, rfl, by simp [PZ, scL], rfl, rfl⟩ ?_
  rintro S ⟨i, g, hi, s0, s6, s5, h5, s3, h3⟩
  have d6 := nM_eq s6
  by_cases hlt : i < vs.length
  · obtain ⟨b2, d2, hvi, hzw, hzi⟩ := hv.cell i hlt
    have mu := rmul ((hv.get i hlt).mono (show k ≤ 2 ^ 26 by omega)) (hc2.mono (show j ≤ 2 ^ 26 by omega)) (by omega)
    rw [hvi, Int.mul_comm] at mu
    have hltI : (i : Int) < (vs.length : Int) := by omega
    have wi := i64_succ i (by omega)
    have hpl : (PZ (scL c (l.take i))).length = i := by rw [PZ_length]; simp [scL]; omega
    have hsn := PZ_snoc (scL c (l.take i)) (c * cf l i)
    rw [← scL_take c l i (by omega), Z_eq] at hsn
    obtain ⟨O, hO⟩ : ∃ O, O = PZ (scL c (l.take i)) := ⟨_, rfl⟩
    rw [← hO] at hpl hsn h5
    have hto : O.take i = O := List.take_of_length_le (by omega)
    obtain ⟨y, hy⟩ : ∃ y, y = c * cf l i := ⟨_, rfl⟩
    rw [← hy] at mu hsn
    refine WS_seq (WS_seq (WS_reg [] ?_)); simp [s0, s6, s5, h5, s3, h3, hlt, hltI, hvi, wi, hpl, hto]
    refine WS_cond (t := true) (by simp [s0, s6, s5, h5, s3, h3, hlt, hltI, hvi, wi, hpl, hto]) (fun _ => ?_) (fun h => by cases h)
    refine WS_skip ?_; simp [s0, s6, s5, h5, s3, h3, hlt, hltI, hvi, wi, hpl, hto]
    refine WS_seq (WS_block (WS_regD [] ?_)); simp [s0, s6, s5, h5, s3, h3, hlt, hltI, hvi, wi, hpl, hto]
    refine callD mu rfl ?_; simp [s0, s6, s5, h5, s3, h3, hlt, hltI, hvi, wi, hpl, hto]
    refine ⟨by omega, ?_⟩
    refine ⟨rfl, ?_⟩
    refine WS_reg [] ?_; simp [s0, s6, s5, h5, s3, h3, hlt, hltI, hvi, wi, hpl, hto]
    refine ⟨⟨i + 1, g + 1, by omega, by simp [s0], by simp, by simp, by simp [hsn], by simp [s3], by simp [h3]⟩, ?_⟩
    show vs.length - nM 6 _ < vs.length - nM 6 S
    rw [d6, nM_eq (i := 6) (n := i + 1) (by simp)]
    omega
  · obtain rfl : i = vs.length := by omega
    have hltI : ¬ (vs.length : Int) < (vs.length : Int) := by omega
    have htl : l.take vs.length = l := by rw [hlen, List.take_length]
    rw [htl] at h5
    have hpl : (PZ (scL c l)).length = vs.length := by rw [PZ_length, hsl]
    obtain ⟨O, hO⟩ : ∃ O, O = PZ (scL c l) := ⟨_, rfl⟩
    rw [← hO] at hpl h5 nm
    have hto : O.take vs.length = O := List.take_of_length_le (by omega)
    obtain ⟨R, hR⟩ : ∃ R, R = PZ (tr (scL c l)) := ⟨_, rfl⟩
    rw [← hR] at nm ⊢
    refine WS_seq (WS_seq (WS_reg [] ?_)); simp [s0, s6, s5, h5, s3, h3, hltI, hpl, hto]
    refine WS_cond (t := false) (by simp [s0, s6, s5, h5, s3, h3, hltI, hpl, hto]) (fun h => by cases h) (fun _ => ?_)
    refine WS_exit ?_; simp [s0, s6, s5, h5, s3, h3, hltI, hpl, hto]
    refine WS_frz 5 5 none ?_
    simp [frzQ, s5, h5, hpl, hto]
    refine WS_seq (WS_reg [] ?_); simp [s0, s6, s5, h5, s3, h3, hltI, hpl, hto]
    refine callK nm ?_; simp [s0, s6, s5, h5, s3, h3, hltI, hpl, hto]
    refine WS_ret ?_; simp [s0, s6, s5, h5, s3, h3, hltI, hpl, hto]
end Go.Vw
set_option linter.unusedVariables false
namespace Go.Vw
open Go.Proofs Go.Py

/-- While a is divided by b (both plain): the places from n on are done. -/
structure DvI (k : Nat) (a b : List Int) (N R n : Nat) (q r : List Int) : Prop where
  qlen : q.length = N
  rlen : r.length = R
  rst : Rst a b q r
  low : ∀ i, i < n → cf q i = 0
  top : ∀ i, n + b.length ≤ i + 1 → cf r i = 0
  lim : PL (k + (N - n) * (k + 1)) r
  qlim : PL (k + N * (k + 1)) q
/-- While a multiple is taken away at the place n. -/
structure DvJ (r b : List Int) (n : Nat) (c : Int) (m : Nat) (o : List Int) : Prop where
  len : o.length = r.length
  val : ∀ j, cf o j = cf r j - if n ≤ j ∧ j - n < m then c * cf b (j - n) else 0
theorem dvJ_first (r b : List Int) (n : Nat) (c : Int) : DvJ r b n c 0 r := ⟨rfl, fun j => by rw [if_neg (by omega)]; omega⟩
theorem dvJ_step {r b o : List Int} {n m : Nat} {c : Int} (h : DvJ r b n c m o) (hi : n + m < r.length) : DvJ r b n c (m + 1) (o.set (n + m) (cf o (n + m) - c * cf b m)) := by
  refine ⟨by simp [h.len], fun j => ?_⟩
  rw [cf_set _ _ _ _ (by rw [h.len]; exact hi)]
  by_cases hj : j = n + m
  · subst hj
    rw [if_pos rfl, h.val, if_neg (by omega), if_pos (by omega), show n + m - n = m by omega]; omega
  · rw [if_neg hj, h.val]
    by_cases h1 : n ≤ j ∧ j - n < m
    · rw [if_pos h1, if_pos (by omega)]
    · rw [if_neg h1, if_neg (by omega)]
theorem dvJ_lim {r b o : List Int} {n m L k : Nat} {c : Int} (h : DvJ r b n c m o) (hr : PL L r) (hc : zlen c ≤ L) (hb : PL k b) : PL (L + k + 1) o := fun j => by
  rw [h.val]
  split
  · have h1 := zlen_sub (cf r j) (c * cf b (j - n))
    have h2 := zlen_mul c (cf b (j - n))
    have h3 := hr j
    have h4 := hb (j - n)
    omega
  · rw [Int.sub_zero]; have := hr j; omega
theorem dvJ_end {r b o : List Int} {n : Nat} {c : Int} (h : DvJ r b n c b.length o) (j : Nat) : cf o j = cf r j - if n ≤ j then c * cf b (j - n) else 0 := by
  rw [h.val]
  by_cases h1 : n ≤ j
  · rw [if_pos h1]
    by_cases h2 : j - n < b.length
    · rw [if_pos ⟨h1, h2⟩]
    · rw [if_neg (by omega), cf_ge (l := b) (by omega)]; omega
  · rw [if_neg h1, if_neg (by omega)]
theorem set_moL {q : List Int} {n : Nat} (c : Int) (h : n < q.length) (h0 : cf q n = 0) : Eqp (q.set n c) (addL q (moL n c)) := fun i => by
  rw [cf_set _ _ _ _ h, cf_addL, cf_moL_one]
  by_cases hi : i = n
  · subst hi; rw [if_pos rfl, if_pos rfl, h0]; omega
  · rw [if_neg hi, if_neg hi]; omega
theorem dvI_step {k N R n : Nat} {a b q r o : List Int} (h : DvI k a b N R (n + 1) q r) (hn : n + 1 ≤ N) (hb : tr b = b) (hb0 : b ≠ []) (hk : PL k b) {c : Int} (hm : cf r (n + b.length - 1) % cf b (b.length - 1) = 0) (hc : c = cf r (n + b.length - 1) / cf b (b.length - 1))
    (hcl : zlen c ≤ k + (N - (n + 1)) * (k + 1)) (ho : DvJ r b n c b.length o) : DvI k a b N R n (q.set n c) o := by
  have e := dvJ_end ho
  have hl := List.length_pos_iff.2 hb0
  refine ⟨by simp [h.qlen], by rw [ho.len, h.rlen], ?_, fun i hi => ?_, ?_, ?_, fun i => ?_⟩
  · exact rst_eqp (rst_step h.rst e) (set_moL c (by rw [h.qlen]; omega) (h.low n (by omega))).symm Eqp.rfl'
  · rw [cf_set _ _ _ _ (by rw [h.qlen]; omega), if_neg (by omega)]; exact h.low i (by omega)
  · intro i hi
    have hz : ∀ i, n + (tr b).length ≤ i → cf r i = 0 := fun i hi => h.top i (by rw [hb] at hi; omega)
    have := rst_less (by rw [hb]; exact hb0) hz (by rw [hb]; exact hm) (by rw [hb, ← hc]; exact e) i
    rw [hb] at this
    exact this (by omega)
  · have := dvJ_lim ho h.lim hcl hk
    have e2 : k + (N - (n + 1)) * (k + 1) + k + 1 = k + (N - n) * (k + 1) := by
      rw [show N - n = (N - (n + 1)) + 1 by omega, Nat.succ_mul]; omega
    rwa [e2] at this
  · rw [cf_set _ _ _ _ (by rw [h.qlen]; omega)]
    split
    · have := Nat.mul_le_mul_right (k + 1) (show N - (n + 1) ≤ N by omega)
      omega
    · exact h.qlim i
end Go.Vw
set_option linter.unusedVariables false
set_option linter.unusedSimpArgs false
namespace Go.Vw
open Go.Proofs Go.Py

/-- The quotient, as it is told. -/
noncomputable def pdivR (a b : List Int) : List RV := if tr b = [] then [.own 25 (some 2) [], .pure (.i .i64 3)] else match pq a b with
  | some q => [.own 25 (some 2) (PZ q), .pure (.i .i64 0)]
  | none => [.own 25 (some 2) [], .pure (.i .i64 4)]
theorem pdivR_eqp {a a' b b' : List Int} (h : Eqp a a') (g : Eqp b b') : pdivR a b = pdivR a' b' := by
  rw [pdivR, pdivR, tr_of_eqp g]
  by_cases hb : tr b' = []
  · rw [if_pos hb, if_pos hb]
  · have hb1 : tr b ≠ [] := by rw [tr_of_eqp g]; exact hb
    rw [if_neg hb, if_neg hb]
    have e : pq a b = pq a' b' := by
      cases h1 : pq a' b' with
      | none => exact pq_none fun q hq => pq_noneinv h1 q (h.symm.trans (hq.trans (eqp_mulL_right g q)))
      | some q =>
        obtain ⟨h2, h3⟩ := pq_inv h1
        rw [pq_some hb1 (h.trans (h2.trans (eqp_mulL_right g.symm q))), h3]
    rw [e]

def DiC (a b : List Int) (N : Nat) (q r : List Int) (n : Nat) (S : St) : Prop := S.σ 1 = .p (.sl (some 2) (PZ b)) ∧ S.σ 6 = .own 14 1 0 a.length ∧ S.h 14 = ⟨1, some (.arr 25 (some 2) (PZ r))⟩ ∧ S.σ 7 = .own 37 1 0 N ∧ S.h 37 = ⟨1, some (.arr 25 (some 2) (PZ q))⟩ ∧ S.σ 8 = .p (.i .i64 ((n : Int) - 1))
def DiS (k : Nat) (a b : List Int) (N : Nat) (S : St) : Prop := ∃ (n : Nat) (q r : List Int), n ≤ N ∧ DvI k a b N a.length n q r ∧ DiC a b N q r n S
def DiJ (a b : List Int) (N : Nat) (q r : List Int) (n : Nat) (c : Int) (S : St) : Prop := ∃ (m g : Nat) (o : List Int), m ≤ b.length ∧ DvJ r b n c m o ∧ S.σ 70 = .p (.sl (some 2) (PZ b)) ∧ S.σ 71 = .p (.i .i64 (b.length : Int)) ∧ S.σ 72 = .p (.i .i64 (m : Int)) ∧ S.σ 9 = .ptr 9 g 0 ∧ S.h 9 = ⟨g, some (.box 25 [.b (zn c), .sl none (uL (zl c))])⟩ ∧ DiC a b N q o (n + 1) S

attribute [local simp] RunL_cons RunL_nil AOp_none AOp_some acK_v acK_call agK_tt agK_ff agK_tf agK_ft agK_tup agK_i aop aun St.ev St.heap St.put thenQ blockQ scopeQ upd_apply S0 argSlot lowV V.cells V.isAgg V.fits V.part partOk plains St.ret retSV svOf svsOf retQ retP retAll retOne uL_length uL_get? uL_get St.elems retH ownIdx ownAt
attribute [local simp] RunD_none RunD_some RunD_nil RunE_any acD_v acD_call agD_tt agD_ff agD_tf agD_ft agD_tup entsOf svref SO.opds SO.writes SO.makes callEnt pureSV pureOf RV.isOwn
attribute [local simp] abin_add abin_sub abin_mul abin_quo abin_rem abin_eql abin_neq abin_lss abin_leq abin_gtr abin_geq
attribute [local simp] uL_snoc uL_set uL_take uL_drop uL_append uL_replicate uL_nil
attribute [local simp] acK_callG acD_callG St.giv gsSV gvSV retEnts ownEnts SO.still
attribute [local simp] S0G argSlotG givSV retQG retPG retAllG retOneG HObj.width V.scalar trimQ V.byte
attribute [local simp] zv V.fits fillOk fillV Z_eq
set_option maxHeartbeats 1000000 in
theorem pdiv {k : Nat} {vs ws : List V} {a b : List Int} (hv : IsP k vs a) (hw : IsP k ws b) (hk : k ≤ 2 ^ 20) (hn : vs.length ≤ 2 ^ 20) (hn2 : ws.length ≤ 2 ^ 20) (hb : vs.length * (k + 1) ≤ 2 ^ 24) :
    Spec Tryz.prog f_zpoly_Div [.sl (some 2) vs, .sl (some 2) ws] (· = pdivR a b) := by
  have nm1 := pnorm hv (by omega) (by omega)
  have nm2 := own_plain (pnorm hw (by omega) (by omega))
  have pla := pl_tr hv.pl
  have plb := pl_tr hw.pl
  have tla : (tr a).length ≤ vs.length := by have := tr_len a; have := hv.len; omega
  have tlb : (tr b).length ≤ ws.length := by have := tr_len b; have := hw.len; omega
  rw [pdivR_eqp (cf_tr a).symm (cf_tr b).symm]
  have ta := tr_tr a
  have tb := tr_tr b
  obtain ⟨x, hx⟩ : ∃ x, x = tr a := ⟨_, rfl⟩
  obtain ⟨y, hy⟩ : ∃ x, x = tr b := ⟨_, rfl⟩
  rw [← hx] at nm1 pla tla ta ⊢
  rw [← hy] at nm2 plb tlb tb ⊢
  clear hx hy
  have hxl := PZ_length x
  have hyl := PZ_length y
  rw [pdivR, tb]
  refine spec_at Tryz.func46 ok_zpoly_Div [true] rfl (by simp) ?_
  unfold sc_zpoly_Div
  by_cases hy0 : y = []
  · subst hy0
    rw [if_pos rfl]
    refine WS_seq (WS_reg [] ?_); simp [PZ, List.map_nil]
    refine WS_seq (WS_reg [] ?_); simp [PZ, List.map_nil]
    refine callK nm1 ?_; simp [PZ, List.map_nil]
    refine callK nm2 ?_; simp [PZ, List.map_nil]
    refine WS_seq (WS_seq (WS_reg [] ?_)); simp [PZ, List.map_nil]
    refine WS_cond (t := true) (by simp [PZ, List.map_nil]) (fun _ => ?_) (fun h => by cases h)
    refine WS_seq (WS_reg [4] ?_); simp [PZ, List.map_nil]
    refine WS_ret ?_; simp [PZ, List.map_nil]
  rw [if_neg hy0]
  have yl := List.length_pos_iff.2 hy0
  have hyI : ¬ (y.length : Int) = 0 := by omega
  have hyN : ¬ y.length = 0 := by omega
  have hyE : ((y.length : Int) == 0) = false := by simpa using hyI
  have rest : (x = [] ∨ y.length ≤ x.length) → ∀ S' : St, S'.σ 1 = .p (.sl (some 2) (PZ y)) → S'.σ 6 = .own 14 1 0 x.length → S'.h 14 = ⟨1, some (.arr 25 (some 2) (PZ x))⟩ → S'.h 37 = ⟨0, none⟩ → WS Tryz.prog 99 sc_zpoly_Div.snd.snd.snd.snd (retQ [.tmp 4, .tmp 5] [true] (· = match pq x y with
      | some q => [.own 25 (some 2) (PZ q), .pure (.i .i64 0)]
      | none => [.own 25 (some 2) [], .pure (.i .i64 4)])) S' := by
    intro hc S' s1 s6 h14 h37
    unfold sc_zpoly_Div
    simp only [SC.snd]
    obtain ⟨N, hN⟩ : ∃ N, N = x.length + 1 - y.length := ⟨_, rfl⟩
    have hNk : N * (k + 1) ≤ 2 ^ 24 := Nat.le_trans (Nat.mul_le_mul_right _ (show N ≤ vs.length by omega)) hb
    have w1 : IntKind.i64.wrap ((x.length : Int) - (y.length : Int)) = (x.length : Int) - (y.length : Int) := by
      rcases hc with rfl | h
      · exact i64_int _ (by simp; omega) (by simp)
      · rw [show (x.length : Int) - (y.length : Int) = ((x.length - y.length : Nat) : Int) by omega]; exact i64_nat _ (by omega)
    have w2 : IntKind.i64.wrap ((x.length : Int) - (y.length : Int) + 1) = (x.length : Int) - (y.length : Int) + 1 := i64_int _ (by omega) (by omega)
    have w3 : (if (x.length : Int) - (y.length : Int) + 1 < 0 then 0 else (x.length : Int) - (y.length : Int) + 1) = (N : Int) := by split <;> omega
    have w4 : IntKind.i64.wrap ((N : Int) - 1) = (N : Int) - 1 := i64_int _ (by omega) (by omega)
    refine WS_seq (WS_reg [] ?_); simp [s1, s6, h14, h37, hxl, hyl, w1, w2, w3, w4]
    refine ⟨by omega, ?_⟩
    refine WS_seq (WS_seq (WS_reg [] ?_)); simp [s1, s6, h14, h37, hxl, hyl, w1, w2, w3, w4]
    refine WS_block ?_
    have hz : List.replicate N (V.agg [.b false, .sl none []]) = PZ (List.replicate N 0) := PZ_replicate N
    have hfirst : DvI k x y N x.length N (List.replicate N 0) x := by
      refine ⟨by simp, rfl, fun i => ?_, fun i _ => cf_replicate _ _, fun i hi => ?_, fun i => by have := pla i; omega, fun i => by rw [cf_replicate, zlen_zero]; omega⟩
      · rw [cf_addL, mulL_zeros (fun i => cf_replicate _ _)]; omega
      · rcases hc with rfl | h
        · simp
        · exact cf_ge (by omega)
    refine WS_loop (DiS k x y N) (dnM 8) ⟨N, List.replicate N 0, x, by omega, hfirst, by simp [s1], by simp [s6], by simp [h14], by simp [h37], by simp [h37, hz], by simp⟩ ?_
    clear s1 s6 h14 h37 w1 w2 w3 w4 hz hfirst S'
    rintro S ⟨n, q, r, hn, hD, s1, s6, h14, s7, h37, s8⟩
    have d8 := dnM_eq s8
    have hrl : (PZ r).length = x.length := by rw [PZ_length, hD.rlen]
    have hql : (PZ q).length = N := by rw [PZ_length, hD.qlen]
    cases n with
    | zero =>
      have hrx := hD.rst
      have hrz : ∀ i, y.length ≤ i + 1 → cf r i = 0 := fun i hi => hD.top i (by omega)
      have plr : PL (2 ^ 26) r := fun i => by
        have h1 := hD.lim i
        rw [Nat.sub_zero] at h1
        omega
      have plq : PL (2 ^ 26) q := fun i => by
        have h1 := hD.qlim i
        omega
      have nr := pnorm (isP_PZ plr) (by omega) (by rw [hrl]; omega)
      have nq := pnorm (isP_PZ plq) (by omega) (by rw [hql]; omega)
      have nr2 := own_plain nr
      have trl := PZ_length (tr r)
      have hcase : ((tr r).length = 0 ∧ pq x y = some (tr q)) ∨ (0 < (tr r).length ∧ pq x y = none) := by
        by_cases h0 : tr r = []
        · left; rw [h0]; exact ⟨rfl, rst_end (by rw [tb]; exact hy0) hrx h0⟩
        · right
          have hlp := List.length_pos_iff.2 h0
          refine ⟨hlp, rst_none (by rw [tb]; exact hy0) hrx h0 (.inl ?_)⟩
          rw [tb]
          have hl := tr_last r h0
          rw [cf_tr] at hl
          rcases Nat.lt_or_ge (tr r).length y.length with h | h
          · exact h
          · exact absurd (hrz _ (by omega)) hl
      obtain ⟨O, hO⟩ : ∃ O, O = PZ r := ⟨_, rfl⟩
      rw [← hO] at hrl h14 nr2
      have htO : O.take x.length = O := List.take_of_length_le (by omega)
      obtain ⟨W, hW⟩ : ∃ O, O = PZ q := ⟨_, rfl⟩
      rw [← hW] at hql h37 nq
      have htW : W.take N = W := List.take_of_length_le (by omega)
      rcases hcase with ⟨h0, hp⟩ | ⟨h0, hp⟩
      · have h0I : ((tr r).length : Int) = 0 := by omega
        rw [hp]
        refine WS_seq (WS_seq (WS_reg [] ?_)); simp [s1, s6, h14, s7, h37, s8, hrl, hql, trl, h0, h0I]
        refine WS_cond (t := false) (by simp [s1, s6, h14, s7, h37, s8, hrl, hql, trl, h0, h0I]) (fun h => by cases h) (fun _ => ?_)
        refine WS_exit ?_; simp [s1, s6, h14, s7, h37, s8, hrl, hql, trl, h0, h0I]
        refine WS_frz 14 6 none ?_
        simp [frzQ, s6, h14, hrl, htO]
        refine WS_frz 37 7 none ?_
        simp [frzQ, s7, h37, hql, htW]
        refine WS_seq (WS_seq (WS_reg [] ?_)); simp [s1, s6, h14, s7, h37, s8, hrl, hql, trl, h0, h0I]
        refine callK nr2 ?_; simp [s1, s6, h14, s7, h37, s8, hrl, hql, trl, h0, h0I]
        refine WS_cond (t := false) (by simp [s1, s6, h14, s7, h37, s8, hrl, hql, trl, h0, h0I]) (fun h => by cases h) (fun _ => ?_)
        refine WS_skip ?_; simp [s1, s6, h14, s7, h37, s8, hrl, hql, trl, h0, h0I]
        refine WS_seq (WS_reg [] ?_); simp [s1, s6, h14, s7, h37, s8, hrl, hql, trl, h0, h0I]
        refine callK nq ?_; simp [s1, s6, h14, s7, h37, s8, hrl, hql, trl, h0, h0I]
        refine WS_ret ?_; simp [s1, s6, h14, s7, h37, s8, hrl, hql, trl, h0, h0I]
      · have h0I : (0 : Int) < ((tr r).length : Int) := by omega
        rw [hp]
        refine WS_seq (WS_seq (WS_reg [] ?_)); simp [s1, s6, h14, s7, h37, s8, hrl, hql, trl, h0, h0I]
        refine WS_cond (t := false) (by simp [s1, s6, h14, s7, h37, s8, hrl, hql, trl, h0, h0I]) (fun h => by cases h) (fun _ => ?_)
        refine WS_exit ?_; simp [s1, s6, h14, s7, h37, s8, hrl, hql, trl, h0, h0I]
        refine WS_frz 14 6 none ?_
        simp [frzQ, s6, h14, hrl, htO]
        refine WS_frz 37 7 none ?_
        simp [frzQ, s7, h37, hql, htW]
        refine WS_seq (WS_seq (WS_reg [] ?_)); simp [s1, s6, h14, s7, h37, s8, hrl, hql, trl, h0, h0I]
        refine callK nr2 ?_; simp [s1, s6, h14, s7, h37, s8, hrl, hql, trl, h0, h0I]
        refine WS_cond (t := true) (by simp [s1, s6, h14, s7, h37, s8, hrl, hql, trl, h0, h0I]) (fun _ => ?_) (fun h => by cases h)
        refine WS_seq (WS_reg [4] ?_); simp [s1, s6, h14, s7, h37, s8, hrl, hql, trl, h0, h0I]
        refine WS_ret ?_; simp [s1, s6, h14, s7, h37, s8, hrl, hql, trl, h0, h0I]
    | succ n =>
      have e1 : ((n + 1 : Nat) : Int) - 1 = (n : Int) := by omega
      rw [e1] at s8
      obtain ⟨L, hL⟩ : ∃ L, L = k + (N - (n + 1)) * (k + 1) := ⟨_, rfl⟩
      have hlim := hD.lim
      rw [← hL] at hlim
      have hL2 : L ≤ 2 ^ 25 := by
        have := Nat.mul_le_mul_right (k + 1) (show N - (n + 1) ≤ N by omega)
        omega
      have hxy : y.length ≤ x.length := by omega
      have hp1 : n + y.length - 1 < x.length := by omega
      have hp2 : y.length - 1 < y.length := by omega
      have w1 : IntKind.i64.wrap ((n : Int) + (y.length : Int)) = (n : Int) + (y.length : Int) := i64_int _ (by omega) (by omega)
      have w2 : IntKind.i64.wrap ((n : Int) + (y.length : Int) - 1) = (n : Int) + (y.length : Int) - 1 := i64_int _ (by omega) (by omega)
      have w3 : IntKind.i64.wrap ((y.length : Int) - 1) = (y.length : Int) - 1 := i64_int _ (by omega) (by omega)
      have t1 : ((n : Int) + (y.length : Int) - 1).toNat = n + y.length - 1 := by omega
      have t2 : ((y.length : Int) - 1).toNat = y.length - 1 := by omega
      have b1 : 0 ≤ (n : Int) + (y.length : Int) - 1 := by omega
      have b2 : (n : Int) + (y.length : Int) - 1 < (x.length : Int) := by omega
      have b3 : 0 ≤ (y.length : Int) - 1 := by omega
      have b4 : (y.length : Int) - 1 < (y.length : Int) := by omega
      have yx0 : cf y (y.length - 1) ≠ 0 := by have := tr_last y (by rw [tb]; exact hy0); rwa [tb] at this
      have hg1 := PZ_get r (n + y.length - 1) (by omega)
      have hg2 := PZ_get y (y.length - 1) (by omega)
      have ex := zexact (isZ_of (x := cf r (n + y.length - 1)) (k := 2 ^ 26) (by have := hlim (n + y.length - 1); omega)) (isZ_of (x := cf y (y.length - 1)) (k := 2 ^ 26) (by have := plb (y.length - 1); omega)) (by omega)
      rw [exactR, if_neg yx0] at ex
      have hplace := rst_place (n := n) (by rw [tb]; exact hy0) hD.rst (fun i hi => hD.top i (by rw [tb] at hi; omega))
      rw [tb] at hplace
      obtain ⟨O, hO⟩ : ∃ O, O = PZ r := ⟨_, rfl⟩
      simp only [← hO] at hg1
      rw [← hO] at hrl h14
      obtain ⟨Y, hY⟩ : ∃ O, O = PZ y := ⟨_, rfl⟩
      simp only [← hY] at hg2
      rw [← hY] at hyl s1
      obtain ⟨W, hW⟩ : ∃ O, O = PZ q := ⟨_, rfl⟩
      rw [← hW] at hql h37
      by_cases hm : cf r (n + y.length - 1) % cf y (y.length - 1) = 0
      · rw [if_pos hm] at ex
        obtain ⟨c, hc0⟩ : ∃ c, c = cf r (n + y.length - 1) / cf y (y.length - 1) := ⟨_, rfl⟩
        have hcl : zlen c ≤ L := by
          refine Nat.le_trans (zlen_le ?_) (hlim (n + y.length - 1))
          have := Int.ediv_mul_cancel (Int.dvd_of_emod_eq_zero hm)
          rw [← hc0] at this
          rw [← this, Int.natAbs_mul]
          exact Nat.le_mul_of_pos_right _ (Int.natAbs_pos.2 yx0)
        rw [← hc0] at ex
        have hset := PZ_set q n c
        rw [← hW, Z_eq] at hset
        obtain ⟨q', hq'⟩ : ∃ q', q' = q.set n c := ⟨_, rfl⟩
        rw [← hq'] at hset
        have hq'l : (PZ q').length = N := by rw [PZ_length, hq']; simpa using hD.qlen
        have hnN : n < N := by omega
        have hnI : (n : Int) < (N : Int) := by omega
        refine WS_seq (WS_seq (WS_reg [] ?_)); simp [s1, s6, h14, s7, h37, s8, hrl, hql, hyl, w1, w2, w3, t1, t2, b1, b2, b3, b4, hp1, hp2, hg1, hg2, hnN, hnI, hset]
        refine WS_cond (t := true) (by simp [s1, s6, h14, s7, h37, s8, hrl, hql, hyl, w1, w2, w3, t1, t2, b1, b2, b3, b4, hp1, hp2, hg1, hg2, hnN, hnI, hset]) (fun _ => ?_) (fun h => by cases h)
        refine WS_skip ?_; simp [s1, s6, h14, s7, h37, s8, hrl, hql, hyl, w1, w2, w3, t1, t2, b1, b2, b3, b4, hp1, hp2, hg1, hg2, hnN, hnI, hset]
        refine WS_seq (WS_block (WS_seq (WS_regD [] ?_))); simp [s1, s6, h14, s7, h37, s8, hrl, hql, hyl, w1, w2, w3, t1, t2, b1, b2, b3, b4, hp1, hp2, hg1, hg2, hnN, hnI, hset]
        refine ⟨by omega, by omega, ?_⟩
        refine callD ex rfl ?_; simp [s1, s6, h14, s7, h37, s8, hrl, hql, hyl, w1, w2, w3, t1, t2, b1, b2, b3, b4, hp1, hp2, hg1, hg2, hnN, hnI, hset]
        refine ⟨rfl, ?_⟩
        refine WS_seq (WS_seq (WS_reg [] ?_)); simp [s1, s6, h14, s7, h37, s8, hrl, hql, hyl, w1, w2, w3, t1, t2, b1, b2, b3, b4, hp1, hp2, hg1, hg2, hnN, hnI, hset]
        refine WS_cond (t := false) (by simp [s1, s6, h14, s7, h37, s8, hrl, hql, hyl, w1, w2, w3, t1, t2, b1, b2, b3, b4, hp1, hp2, hg1, hg2, hnN, hnI, hset]) (fun h => by cases h) (fun _ => ?_)
        refine WS_skip ?_; simp [s1, s6, h14, s7, h37, s8, hrl, hql, hyl, w1, w2, w3, t1, t2, b1, b2, b3, b4, hp1, hp2, hg1, hg2, hnN, hnI, hset]
        refine WS_seq (WS_reg [] ?_); simp [s1, s6, h14, s7, h37, s8, hrl, hql, hyl, w1, w2, w3, t1, t2, b1, b2, b3, b4, hp1, hp2, hg1, hg2, hnN, hnI, hset]
        refine WS_seq (WS_reg [] ?_); simp [s1, s6, h14, s7, h37, s8, hrl, hql, hyl, w1, w2, w3, t1, t2, b1, b2, b3, b4, hp1, hp2, hg1, hg2, hnN, hnI, hset]
        refine WS_block ?_
        refine WS_loop (DiJ x y N q' r n c) (fun S => y.length - nM 72 S) ⟨0, (S.h 9).g + 1, r, by omega, dvJ_first _ _ _ _, by simp [s1, hY], by simp [hyl], by simp, by simp, by simp, by simp [s1, hY], by simp [s6], by simp [h14, hO], by simp [s7], by simp [hset], by simp [s8]⟩ ?_
        clear s1 s6 h14 s7 h37 s8 hrl hql hyl hg1 hg2 hO hY hW ex hplace O Y W w1 w2 w3 t1 t2 b1 b2 b3 b4 hset
        rintro S' ⟨m, g, o, hmy, hJ, s70, s71, s72, s9, h9, s1, s6, h14, s7, h37, s8⟩
        have e2 : ((n + 1 : Nat) : Int) - 1 = (n : Int) := by omega
        rw [e2] at s8
        have d72 := nM_eq s72
        have hyl := PZ_length y
        have hol : (PZ o).length = x.length := by rw [PZ_length, hJ.len, hD.rlen]
        have pol := dvJ_lim hJ hlim hcl plb
        by_cases hlt : m < y.length
        · have hltI : (m : Int) < (y.length : Int) := by omega
          have v1 : IntKind.i64.wrap ((n : Int) + (m : Int)) = (n : Int) + (m : Int) := i64_int _ (by omega) (by omega)
          have v2 := i64_succ m (by omega)
          have v3 : ((n : Int) + (m : Int)).toNat = n + m := by omega
          have v4 : (0 : Int) ≤ (n : Int) + (m : Int) := by omega
          have v5 : (n : Int) + (m : Int) < (x.length : Int) := by omega
          have v6 : n + m < x.length := by omega
          have gy := PZ_get y m (by omega)
          have go := PZ_get o (n + m) (by omega)
          have mu := zmul (isZ_of (x := c) (k := 2 ^ 26) (by omega)) (isZ_of (x := cf y m) (k := 2 ^ 26) (by have := plb m; omega)) (by omega)
          have ml := zlen_mul c (cf y m)
          have sb := zsub (isZ_of (x := cf o (n + m)) (k := 2 ^ 27) (by have := pol (n + m); omega)) (isZ_of (x := c * cf y m) (k := 2 ^ 27) (by have := plb m; omega)) (by omega)
          have hst := dvJ_step hJ (by rw [hD.rlen]; exact v6)
          have hset := PZ_set o (n + m) (cf o (n + m) - c * cf y m)
          rw [Z_eq] at hset
          obtain ⟨p, hp⟩ : ∃ p, p = c * cf y m := ⟨_, rfl⟩
          rw [← hp] at mu sb hst hset
          obtain ⟨u, hu⟩ : ∃ u, u = cf o (n + m) - p := ⟨_, rfl⟩
          rw [← hu] at sb hst hset
          obtain ⟨O, hO⟩ : ∃ O, O = PZ o := ⟨_, rfl⟩
          simp only [← hO] at go
          rw [← hO] at hol h14 hset
          obtain ⟨Y, hY⟩ : ∃ O, O = PZ y := ⟨_, rfl⟩
          simp only [← hY] at gy
          rw [← hY] at hyl s1 s70
          refine WS_seq (WS_reg [] ?_); simp [s1, s6, h14, s7, h37, s8, s70, s71, s72, s9, h9, hol, hyl, hlt, hltI, v1, v2, v3, v4, v5, v6, gy, go, hset]
          refine WS_seq ?_
          refine WS_cond (t := true) (by simp [s1, s6, h14, s7, h37, s8, s70, s71, s72, s9, h9, hol, hyl, hlt, hltI, v1, v2, v3, v4, v5, v6, gy, go, hset]) (fun _ => ?_) (fun h => by cases h)
          refine WS_skip ?_; simp [s1, s6, h14, s7, h37, s8, s70, s71, s72, s9, h9, hol, hyl, hlt, hltI, v1, v2, v3, v4, v5, v6, gy, go, hset]
          refine WS_seq (WS_block (WS_seq (WS_reg [] ?_))); simp [s1, s6, h14, s7, h37, s8, s70, s71, s72, s9, h9, hol, hyl, hlt, hltI, v1, v2, v3, v4, v5, v6, gy, go, hset]
          refine WS_regD [] ?_; simp [s1, s6, h14, s7, h37, s8, s70, s71, s72, s9, h9, hol, hyl, hlt, hltI, v1, v2, v3, v4, v5, v6, gy, go, hset]
          refine callD mu rfl ?_; simp [s1, s6, h14, s7, h37, s8, s70, s71, s72, s9, h9, hol, hyl, hlt, hltI, v1, v2, v3, v4, v5, v6, gy, go, hset]
          refine callD sb rfl ?_; simp [s1, s6, h14, s7, h37, s8, s70, s71, s72, s9, h9, hol, hyl, hlt, hltI, v1, v2, v3, v4, v5, v6, gy, go, hset]
          refine ⟨rfl, ?_⟩
          refine WS_reg [] ?_; simp [s1, s6, h14, s7, h37, s8, s70, s71, s72, s9, h9, hol, hyl, hlt, hltI, v1, v2, v3, v4, v5, v6, gy, go, hset]
          refine ⟨⟨m + 1, g, o.set (n + m) u, by omega, hst, by simp [s70, hY], by simp [s71], by simp, by simp [s9], by simp [h9], by simp [s1, hY], by simp [s6], by simp [hset], by simp [s7], by simp [h37], by simp [s8]⟩, ?_⟩
          show y.length - nM 72 _ < y.length - nM 72 S'
          rw [d72, nM_eq (i := 72) (n := m + 1) (by simp)]
          omega
        · obtain rfl : m = y.length := by omega
          have hltI : ¬ (y.length : Int) < (y.length : Int) := by omega
          have v2 : IntKind.i64.wrap ((n : Int) - 1) = (n : Int) - 1 := i64_int _ (by omega) (by omega)
          have hnx := dvI_step hD hn tb hy0 plb hm hc0 (by rw [← hL]; exact hcl) hJ
          rw [← hq'] at hnx
          clear pol hcl yx0 hm hL2 hlim
          refine WS_seq (WS_reg [] ?_); simp [s1, s6, h14, s7, h37, s8, s70, s71, s72, s9, h9, hltI, v2]
          refine WS_seq ?_
          refine WS_cond (t := false) (by simp [s1, s6, h14, s7, h37, s8, s70, s71, s72, s9, h9, hltI, v2]) (fun h => by cases h) (fun _ => ?_)
          refine WS_exit ?_; simp [s1, s6, h14, s7, h37, s8, s70, s71, s72, s9, h9, hltI, v2]
          refine WS_reg [] ?_; simp [s1, s6, h14, s7, h37, s8, s70, s71, s72, s9, h9, hltI, v2]
          refine ⟨⟨n, q', o, by omega, hnx, by simp [s1], by simp [s6], by simp [h14], by simp [s7], by simp [h37], by simp⟩, ?_⟩
          rw [d8, dnM_eq (i := 8) (k := n) (by simp)]
          omega
      · rw [if_neg hm] at ex
        rw [hplace hm]
        refine WS_seq (WS_seq (WS_reg [] ?_)); simp [s1, s6, h14, s7, h37, s8, hrl, hql, hyl, w1, w2, w3, t1, t2, b1, b2, b3, b4, hp1, hp2, hg1, hg2]
        refine WS_cond (t := true) (by simp [s1, s6, h14, s7, h37, s8, hrl, hql, hyl, w1, w2, w3, t1, t2, b1, b2, b3, b4, hp1, hp2, hg1, hg2]) (fun _ => ?_) (fun h => by cases h)
        refine WS_skip ?_; simp [s1, s6, h14, s7, h37, s8, hrl, hql, hyl, w1, w2, w3, t1, t2, b1, b2, b3, b4, hp1, hp2, hg1, hg2]
        refine WS_seq (WS_block (WS_seq (WS_regD [] ?_))); simp [s1, s6, h14, s7, h37, s8, hrl, hql, hyl, w1, w2, w3, t1, t2, b1, b2, b3, b4, hp1, hp2, hg1, hg2]
        refine ⟨by omega, by omega, ?_⟩
        refine callD ex rfl ?_; simp [s1, s6, h14, s7, h37, s8, hrl, hql, hyl, w1, w2, w3, t1, t2, b1, b2, b3, b4, hp1, hp2, hg1, hg2]
        refine ⟨rfl, ?_⟩
        refine WS_seq (WS_seq (WS_reg [] ?_)); simp [s1, s6, h14, s7, h37, s8, hrl, hql, hyl, w1, w2, w3, t1, t2, b1, b2, b3, b4, hp1, hp2, hg1, hg2]
        refine WS_cond (t := true) (by simp [s1, s6, h14, s7, h37, s8, hrl, hql, hyl, w1, w2, w3, t1, t2, b1, b2, b3, b4, hp1, hp2, hg1, hg2]) (fun _ => ?_) (fun h => by cases h)
        refine WS_seq (WS_reg [4] ?_); simp [s1, s6, h14, s7, h37, s8, hrl, hql, hyl, w1, w2, w3, t1, t2, b1, b2, b3, b4, hp1, hp2, hg1, hg2]
        refine WS_ret ?_; simp [s1, s6, h14, s7, h37, s8, hrl, hql, hyl, w1, w2, w3, t1, t2, b1, b2, b3, b4, hp1, hp2, hg1, hg2]
  unfold sc_zpoly_Div at rest
  simp only [SC.snd] at rest
  by_cases hsh : 0 < x.length ∧ x.length < y.length
  · obtain ⟨h1, h2⟩ := hsh
    have h1I : (0 : Int) < (x.length : Int) := by omega
    have h2I : (x.length : Int) < (y.length : Int) := by omega
    have hno : pq x y = none := by
      refine rst_none (q := []) (r := x) (by rw [tb]; exact hy0) (fun i => by rw [mulL, addL]) (by rw [ta]; exact List.length_pos_iff.1 h1) (.inl (by rw [ta, tb]; exact h2))
    rw [hno]
    refine WS_seq (WS_reg [] ?_); simp [hxl, hyl, hyE, hyI, hyN, h1, h1I, h2, h2I, yl]
    refine WS_seq (WS_reg [] ?_); simp [hxl, hyl, hyE, hyI, hyN, h1, h1I, h2, h2I, yl]
    refine callK nm1 ?_; simp [hxl, hyl, hyE, hyI, hyN, h1, h1I, h2, h2I, yl]
    refine callK nm2 ?_; simp [hxl, hyl, hyE, hyI, hyN, h1, h1I, h2, h2I, yl]
    refine WS_seq (WS_seq (WS_reg [] ?_)); simp [hxl, hyl, hyE, hyI, hyN, h1, h1I, h2, h2I, yl]
    refine WS_cond (t := false) (by simp [hxl, hyl, hyE, hyI, hyN, h1, h1I, h2, h2I, yl]) (fun h => by cases h) (fun _ => ?_)
    refine WS_skip ?_; simp [hxl, hyl, hyE, hyI, hyN, h1, h1I, h2, h2I, yl]
    refine WS_seq (WS_seq (WS_reg [] ?_)); simp [hxl, hyl, hyE, hyI, hyN, h1, h1I, h2, h2I, yl]
    refine WS_cond (t := true) (by simp [hxl, hyl, hyE, hyI, hyN, h1, h1I, h2, h2I, yl]) (fun _ => ?_) (fun h => by cases h)
    refine WS_seq (WS_reg [4] ?_); simp [hxl, hyl, hyE, hyI, hyN, h1, h1I, h2, h2I, yl]
    refine WS_ret ?_; simp [hxl, hyl, hyE, hyI, hyN, h1, h1I, h2, h2I, yl]
  by_cases hx0 : x = []
  · subst hx0
    refine WS_seq (WS_reg [] ?_); simp [hxl, hyl, hyE, hyI, hyN, yl]
    refine WS_seq (WS_reg [] ?_); simp [hxl, hyl, hyE, hyI, hyN, yl]
    refine callK nm1 ?_; simp [hxl, hyl, hyE, hyI, hyN, yl]
    refine callK nm2 ?_; simp [hxl, hyl, hyE, hyI, hyN, yl]
    refine WS_seq (WS_seq (WS_reg [] ?_)); simp [hxl, hyl, hyE, hyI, hyN, yl]
    refine WS_cond (t := false) (by simp [hxl, hyl, hyE, hyI, hyN, yl]) (fun h => by cases h) (fun _ => ?_)
    refine WS_skip ?_; simp [hxl, hyl, hyE, hyI, hyN, yl]
    refine WS_seq (WS_seq (WS_reg [] ?_)); simp [hxl, hyl, hyE, hyI, hyN, yl]
    refine WS_cond (t := false) (by simp [hxl, hyl, hyE, hyI, hyN, yl]) (fun h => by cases h) (fun _ => ?_)
    refine WS_skip ?_; simp [hxl, hyl, hyE, hyI, hyN, yl]
    exact rest (.inl rfl) _ (by simp) (by simp) (by simp) (by simp)
  · have hge : y.length ≤ x.length := by
      have := List.length_pos_iff.2 hx0
      omega
    have hp := List.length_pos_iff.2 hx0
    have g1 : (0 : Int) < (x.length : Int) := by omega
    have g2 : ¬ (x.length : Int) < (y.length : Int) := by omega
    refine WS_seq (WS_reg [] ?_); simp [hxl, hyl, hyE, hyI, hyN, yl, hp, g1, g2]
    refine WS_seq (WS_reg [] ?_); simp [hxl, hyl, hyE, hyI, hyN, yl, hp, g1, g2]
    refine callK nm1 ?_; simp [hxl, hyl, hyE, hyI, hyN, yl, hp, g1, g2]
    refine callK nm2 ?_; simp [hxl, hyl, hyE, hyI, hyN, yl, hp, g1, g2]
    refine WS_seq (WS_seq (WS_reg [] ?_)); simp [hxl, hyl, hyE, hyI, hyN, yl, hp, g1, g2]
    refine WS_cond (t := false) (by simp [hxl, hyl, hyE, hyI, hyN, yl, hp, g1, g2]) (fun h => by cases h) (fun _ => ?_)
    refine WS_skip ?_; simp [hxl, hyl, hyE, hyI, hyN, yl, hp, g1, g2]
    refine WS_seq (WS_seq (WS_reg [] ?_)); simp [hxl, hyl, hyE, hyI, hyN, yl, hp, g1, g2]
    refine WS_cond (t := false) (by simp [hxl, hyl, hyE, hyI, hyN, yl, hp, g1, g2]) (fun h => by cases h) (fun _ => ?_)
    refine WS_skip ?_; simp [hxl, hyl, hyE, hyI, hyN, yl, hp, g1, g2]
    exact rest (.inr hge) _ (by simp) (by simp) (by simp) (by simp)
end Go.Vw
set_option linter.unusedVariables false
set_option linter.unusedSimpArgs false
namespace Go.Vw
open Go.Proofs Go.Py

/-- Numbers as a row. -/
def IL (l : List Int) : List V := l.map fun x => V.i .i64 x
theorem IL_length (l : List Int) : (IL l).length = l.length := by simp [IL]
theorem IL_get (l : List Int) (i : Nat) (h : i < (IL l).length) : (IL l)[i] = .i .i64 (cf l i) := by
  have hi' : i < l.length := by simpa [IL] using h
  rw [cf_lt hi']
  simp only [IL, List.getElem_map]
theorem IL_take (l : List Int) (n : Nat) : (IL l).take n = IL (l.take n) := by simp [IL, List.map_take]
def EjS (n : Nat) (vs : List V) (f : FuncId) (caps : List V) (g : Nat → V) (S : St) : Prop := ∃ k : Nat, k ≤ n ∧ S.σ 1 = .p (.clo f caps) ∧ S.σ 5 = .own 10 1 0 n ∧ S.σ 11 = .p (.sl (some 2) vs) ∧ S.σ 12 = .p (.i .i64 (n : Int)) ∧ S.σ 13 = .p (.i .i64 (k : Int)) ∧
  S.h 10 = ⟨1, some (.arr 3 none ((List.range k).map g ++ List.replicate (n - k) (.i .i64 0)))⟩

/-- The rests. -/
def rsL (p : Int) (l : List Int) : List Int := tr ((List.range l.length).map fun i => cf l i % p)
def modP (p : Int) (l : List Int) : List RV := if p < 1 then [.own 3 none [], .pure (.i .i64 1)] else [.own 3 none (IL (rsL p l)), .pure (.i .i64 0)]

attribute [local simp] RunL_cons RunL_nil AOp_none AOp_some acK_v acK_call agK_tt agK_ff agK_tf agK_ft agK_tup agK_i aop aun St.ev St.heap St.put thenQ blockQ scopeQ upd_apply S0 argSlot lowV V.cells V.isAgg V.fits V.part partOk plains St.ret retSV svOf svsOf retQ retP retAll retOne uL_length uL_get? uL_get St.elems retH ownIdx ownAt
attribute [local simp] RunD_none RunD_some RunD_nil RunE_any acD_v acD_call agD_tt agD_ff agD_tf agD_ft agD_tup entsOf svref SO.opds SO.writes SO.makes callEnt pureSV pureOf RV.isOwn
attribute [local simp] abin_add abin_sub abin_mul abin_quo abin_rem abin_eql abin_neq abin_lss abin_leq abin_gtr abin_geq
attribute [local simp] uL_snoc uL_set uL_take uL_drop uL_append uL_replicate uL_nil
attribute [local simp] acK_callG acD_callG St.giv gsSV gvSV retEnts ownEnts SO.still
attribute [local simp] S0G argSlotG givSV retQG retPG retAllG retOneG HObj.width V.scalar trimQ V.byte
attribute [local simp] zv V.fits fillOk fillV Z_eq
theorem each_zi {vs : List V} (hn : vs.length ≤ 2 ^ 40) (hv : ∀ i (h : i < vs.length), ∃ n d, vs[i] = .agg [.b n, .sl none (uL d)]) (f : FuncId) (caps : List V) (g : Nat → Int)
    (hF : ∀ i (h : i < vs.length), Spec Tryz.prog f ([.i .i64 (i : Int), vs[i]] ++ caps) (· = [.pure (.i .i64 (g i))])) :
    Spec Tryz.prog f_zpoly_each_api_Int_int [.sl (some 2) vs, .clo f caps] (· = [.own 3 none (IL ((List.range vs.length).map g))]) := by
  obtain ⟨n, hnn⟩ : ∃ n, n = vs.length := ⟨_, rfl⟩
  rw [← hnn]
  rw [← hnn] at hn
  rw [show IL ((List.range n).map g) = (List.range n).map fun i => V.i .i64 (g i) by simp [IL]]
  refine spec_at Tryz.func68 ok_zpoly_each_api_Int_int [true] rfl (by simp) ?_
  unfold sc_zpoly_each_api_Int_int
  refine WS_seq (WS_reg [] ?_); simp [hnn.symm]
  refine WS_seq (WS_reg [] ?_); simp [hnn.symm]
  refine ⟨by omega, ?_⟩
  refine WS_seq (WS_seq (WS_reg [] ?_)); simp [hnn.symm]
  refine WS_block ?_
  refine WS_loop (EjS n vs f caps (fun i => .i .i64 (g i))) (fun S => n - nM 13 S) ⟨0, by omega, rfl, rfl, rfl, rfl, rfl, by simp⟩ ?_
  rintro S ⟨k, hk, s1, s5, s11, s12, s13, h10⟩
  have d13 := nM_eq s13
  by_cases hlt : k < n
  · have hk' : k < vs.length := by omega
    obtain ⟨b, d, hvk⟩ := hv k hk'
    have sp := hF k hk'
    rw [hvk] at sp
    have w1 := i64_succ k (by omega)
    have hltI : (k : Int) < (n : Int) := by omega
    have hset := range_fill (fun i => V.i .i64 (g i)) (.i .i64 0) hlt
    obtain ⟨W, hW⟩ : ∃ W, W = (List.range k).map (fun i => V.i .i64 (g i)) ++ List.replicate (n - k) (V.i .i64 0) := ⟨_, rfl⟩
    have hpl : W.length = n := by rw [hW]; simp; omega
    rw [← hW] at hset h10
    obtain ⟨y, hy⟩ : ∃ y, y = g k := ⟨_, rfl⟩
    simp only [← hy] at sp hset
    refine WS_seq (WS_reg [] ?_); simp [s1, s5, s11, s12, s13, h10, hlt, hltI, hk', hvk, w1, hpl, hset]
    refine WS_seq ?_
    refine WS_cond (t := true) (by simp [s1, s5, s11, s12, s13, h10, hlt, hltI, hk', hvk, w1, hpl, hset]) (fun _ => ?_) (fun h => by cases h)
    refine WS_skip ?_; simp [s1, s5, s11, s12, s13, h10, hlt, hltI, hk', hvk, w1, hpl, hset]
    refine WS_seq (WS_block (WS_seq (WS_reg [] ?_))); simp [s1, s5, s11, s12, s13, h10, hlt, hltI, hk', hvk, w1, hpl, hset]
    refine WS_reg [] ?_; simp [s1, s5, s11, s12, s13, h10, hlt, hltI, hk', hvk, w1, hpl, hset]
    refine callK sp ?_; simp [s1, s5, s11, s12, s13, h10, hlt, hltI, hk', hvk, w1, hpl, hset]
    refine WS_reg [] ?_; simp [s1, s5, s11, s12, s13, h10, hlt, hltI, hk', hvk, w1, hpl, hset]
    refine ⟨⟨k + 1, by omega, by simp [s1], by simp [s5], by simp [s11], by simp [s12], by simp, by simp [hset]⟩, ?_⟩
    show n - nM 13 _ < n - nM 13 S
    rw [d13, nM_eq (i := 13) (n := k + 1) (by simp)]
    omega
  · obtain rfl : k = n := by omega
    have hltI : ¬ (k : Int) < (k : Int) := by omega
    have hfull : (List.range k).map (fun i => V.i .i64 (g i)) ++ List.replicate (k - k) (V.i .i64 0) = (List.range k).map (fun i => V.i .i64 (g i)) := by simp
    rw [hfull] at h10
    have hpt : ((List.range k).map (fun i => V.i .i64 (g i))).take k = (List.range k).map (fun i => V.i .i64 (g i)) := List.take_of_length_le (by simp)
    obtain ⟨W, hW⟩ : ∃ W, W = (List.range k).map (fun i => V.i .i64 (g i)) := ⟨_, rfl⟩
    have hpl : W.length = k := by rw [hW]; simp
    rw [← hW] at h10 hpt ⊢
    refine WS_seq (WS_reg [] ?_); simp [s1, s5, s11, s12, s13, h10, hltI, hpl, hpt]
    refine WS_seq ?_
    refine WS_cond (t := false) (by simp [s1, s5, s11, s12, s13, h10, hltI, hpl, hpt]) (fun h => by cases h) (fun _ => ?_)
    refine WS_exit ?_; simp [s1, s5, s11, s12, s13, h10, hltI, hpl, hpt]
    refine WS_seq (WS_reg [] ?_); simp [s1, s5, s11, s12, s13, h10, hltI, hpl, hpt]
    refine WS_ret ?_; simp [s1, s5, s11, s12, s13, h10, hltI, hpl, hpt]

theorem mod1 {k : Nat} {v : V} {x : Int} (hv : IsZ k v x) (hk : k ≤ 2 ^ 34) (i p : Int) (h1 : 1 ≤ p) (h2 : p ≤ 9223372036854775807) : Spec Tryz.prog f_zpoly_Mod_1 [.i .i64 i, v, .ref none (.i .i64 p)] (· = [.pure (.i .i64 (x % p))]) := by
  have pm := pmod hv hk p (by omega) h2
  rw [modR, if_neg (by omega)] at pm
  obtain ⟨n, l, rfl, h, hx⟩ := hv
  obtain ⟨y, hy⟩ : ∃ y, y = x % p := ⟨_, rfl⟩
  rw [← hy] at pm ⊢
  refine spec_at Tryz.func69 ok_zpoly_Mod_1 [] rfl (by simp) ?_
  unfold sc_zpoly_Mod_1
  refine WS_seq (WS_reg [] ?_); simp
  refine WS_seq (WS_reg [] ?_); simp
  refine callK pm ?_; simp
  refine WS_seq (WS_reg [] ?_); simp
  refine WS_ret ?_; simp

def MoS (W : List Int) (S : St) : Prop := ∃ m : Nat, m ≤ W.length ∧ S.σ 6 = .own 11 1 0 m ∧ S.h 11 = ⟨1, some (.arr 3 none (IL W))⟩ ∧ ∀ i, m ≤ i → cf W i = 0
def owL (i : Nat) (S : St) : Nat := match S.σ i with | .own _ _ _ n => n | _ => 0
theorem owL_eq {i r g o n : Nat} {S : St} (h : S.σ i = .own r g o n) : owL i S = n := by simp only [owL, h]

theorem pmodp {k : Nat} {vs : List V} {l : List Int} (hv : IsP k vs l) (hk : k ≤ 2 ^ 34) (hn : vs.length ≤ 2 ^ 40) (p : Int) (h1 : -9223372036854775808 ≤ p) (h2 : p ≤ 9223372036854775807) : Spec Tryz.prog f_zpoly_Mod [.sl (some 2) vs, .i .i64 p] (· = modP p l) := by
  rw [modP]
  by_cases hp : p < 1
  · rw [if_pos hp]
    refine spec_at Tryz.func25 ok_zpoly_Mod [true] rfl (by simp) ?_
    unfold sc_zpoly_Mod
    refine WS_seq (WS_reg [] ?_); simp [hp, IL]
    refine WS_seq (WS_seq (WS_reg [] ?_)); simp [hp, IL]
    refine WS_cond (t := true) (by simp [hp, IL]) (fun _ => ?_) (fun h => by cases h)
    refine WS_seq (WS_reg [4] ?_); simp [hp, IL]
    refine WS_ret ?_; simp [hp, IL]
  rw [if_neg hp]
  have ea := each_zi hn (fun i h => by
    obtain ⟨b, d, e, _⟩ := hv.cell i h
    exact ⟨b, d, e⟩) f_zpoly_Mod_1 [.ref none (.i .i64 p)] (fun i => cf l i % p) (fun i h => mod1 (hv.get i h) hk _ p (by omega) h2)
  rw [hv.len] at ea
  rw [rsL]
  have hWl : ((List.range l.length).map fun i => cf l i % p).length = vs.length := by rw [hv.len]; simp
  obtain ⟨W, hW⟩ : ∃ W, W = (List.range l.length).map fun i => cf l i % p := ⟨_, rfl⟩
  rw [← hW] at ea hWl ⊢
  clear hW
  have hIl := IL_length W
  refine spec_at Tryz.func25 ok_zpoly_Mod [true] rfl (by simp) ?_
  unfold sc_zpoly_Mod
  refine WS_seq (WS_reg [] ?_); simp [hp, hIl]
  refine WS_frz 3 3 none ?_
  simp [frzQ]
  refine WS_seq (WS_seq (WS_reg [] ?_)); simp [hp, hIl]
  refine WS_cond (t := false) (by simp [hp, hIl]) (fun h => by cases h) (fun _ => ?_)
  refine WS_skip ?_; simp [hp, hIl]
  refine WS_seq (WS_reg [] ?_); simp [hp, hIl]
  refine callK ea ?_; simp [hp, hIl]
  refine WS_seq (WS_block ?_)
  refine WS_loop (MoS W) (owL 6) ⟨W.length, Nat.le_refl _, by simp, by simp, fun i hi => cf_ge hi⟩ ?_
  rintro S ⟨m, hm, s6, h11, hz⟩
  have d6 := owL_eq s6
  have fin : (m = 0 ∨ cf W (m - 1) ≠ 0) → (IL W).take m = IL (tr W) := fun h => by rw [IL_take, tr_take hm hz h]
  cases m with
  | zero =>
    have hf := fin (.inl rfl)
    rw [List.take_zero] at hf
    rw [← hf]
    refine WS_seq (WS_seq (WS_reg [] ?_)); simp [s6, h11, hIl]
    refine WS_cond (t := false) (by simp [s6, h11, hIl]) (fun h => by cases h) (fun _ => ?_)
    refine WS_exit ?_; simp [s6, h11, hIl]
    refine WS_seq (WS_reg [] ?_); simp [s6, h11, hIl]
    refine WS_ret ?_; simp [s6, h11, hIl]
  | succ j =>
    have hjI : (j : Int) < (W.length : Int) := by omega
    have hj : j < W.length := by omega
    have w1 := i64_nat j (by omega)
    have hg := IL_get W j (by omega)
    obtain ⟨O, hO⟩ : ∃ O, O = IL W := ⟨_, rfl⟩
    simp only [← hO] at hg
    by_cases h0 : cf W j = 0
    · rw [← hO] at hIl h11
      refine WS_seq (WS_seq (WS_reg [] ?_)); simp [s6, h11, hIl, hj, hjI, w1, hg, h0]
      refine ⟨by omega, ?_⟩
      refine WS_cond (t := true) (by simp [s6, h11, hIl, hj, hjI, w1, hg, h0]) (fun _ => ?_) (fun h => by cases h)
      refine WS_skip ?_; simp [s6, h11, hIl, hj, hjI, w1, hg, h0]
      refine WS_block (WS_reg [] ?_); simp [s6, h11, hIl, hj, hjI, w1, hg, h0]
      refine ⟨by omega, ⟨j, by omega, by simp, by simp [h11, hO], fun i hi => ?_⟩, ?_⟩
      · rcases Nat.lt_or_ge j i with h | h
        · exact hz i h
        · rw [show i = j by omega]; exact h0
      · rw [d6, owL_eq (i := 6) (r := 11) (g := 1) (o := 0) (n := j) (by simp)]
        omega
    · have hf := fin (.inr h0)
      rw [← hO] at hIl h11 hf
      refine WS_seq (WS_seq (WS_reg [] ?_)); simp [s6, h11, hIl, hj, hjI, w1, hg, h0, hf]
      refine ⟨by omega, ?_⟩
      refine WS_cond (t := false) (by simp [s6, h11, hIl, hj, hjI, w1, hg, h0, hf]) (fun h => by cases h) (fun _ => ?_)
      refine WS_exit ?_; simp [s6, h11, hIl, hj, hjI, w1, hg, h0, hf]
      refine WS_seq (WS_reg [] ?_); simp [s6, h11, hIl, hj, hjI, w1, hg, h0, hf]
      refine WS_ret ?_; simp [s6, h11, hIl, hj, hjI, w1, hg, h0, hf]
      omega

def modQ (p : Int) (l : List Int) : List RV := if p < 1 then [.pure (.sl none []), .pure (.i .i64 1)] else [.pure (.sl none (IL (rsL p l))), .pure (.i .i64 0)]
theorem pmodq {k : Nat} {vs : List V} {l : List Int} (hv : IsP k vs l) (hk : k ≤ 2 ^ 34) (hn : vs.length ≤ 2 ^ 40) (p : Int) (h1 : -9223372036854775808 ≤ p) (h2 : p ≤ 9223372036854775807) : Spec Tryz.prog f_zpoly_Mod [.sl (some 2) vs, .i .i64 p] (· = modQ p l) :=
  (pmodp hv hk hn p h1 h2).plain fun r e => by
    rw [e, modP, modQ]
    split <;> rfl
end Go.Vw
set_option linter.unusedVariables false
set_option linter.unusedSimpArgs false
namespace Go.Vw
open Go.Proofs Go.Py

/-- The quotient, as plain values. -/
noncomputable def pdivQ (a b : List Int) : List RV := if tr b = [] then [.pure (.sl (some 2) []), .pure (.i .i64 3)] else match pq a b with
  | some q => [.pure (.sl (some 2) (PZ q)), .pure (.i .i64 0)]
  | none => [.pure (.sl (some 2) []), .pure (.i .i64 4)]
theorem pdivq {k : Nat} {vs ws : List V} {a b : List Int} (hv : IsP k vs a) (hw : IsP k ws b) (hk : k ≤ 2 ^ 20) (hn : vs.length ≤ 2 ^ 20) (hn2 : ws.length ≤ 2 ^ 20) (hb : vs.length * (k + 1) ≤ 2 ^ 24) :
    Spec Tryz.prog f_zpoly_Div [.sl (some 2) vs, .sl (some 2) ws] (· = pdivQ a b) :=
  (pdiv hv hw hk hn hn2 hb).plain fun r e => by
    rw [e, pdivR, pdivQ]
    split
    · rfl
    · cases pq a b <;> rfl
theorem pdivQ_some {a b q : List Int} (hb : tr b ≠ []) (h : Eqp a (mulL q b)) : pdivQ a b = [.pure (.sl (some 2) (PZ (tr q))), .pure (.i .i64 0)] := by
  rw [pdivQ, if_neg hb, pq_some hb h]
theorem pdivQ_none {a b : List Int} (hb : tr b ≠ []) (h : pq a b = none) : pdivQ a b = [.pure (.sl (some 2) []), .pure (.i .i64 4)] := by
  rw [pdivQ, if_neg hb, h]
/-- The polynomial of small numbers, plain already. -/
theorem ofc {l : List Int} (hl : ∀ x ∈ l, -9223372036854775808 ≤ x ∧ x ≤ 9223372036854775807) (hn : l.length ≤ 2 ^ 40) (ht : tr l = l) : Spec Tryz.prog f_zpoly_Of [.sl none (l.map fun x => V.i .i64 x)] (· = [.pure (.sl (some 2) (PZ l))]) := by
  have := own_plain (pof hl hn)
  rwa [ht] at this
theorem pl_small {l : List Int} (hl : ∀ x ∈ l, -9223372036854775808 ≤ x ∧ x ≤ 9223372036854775807) : PL 1 l := fun i => by
  by_cases h : i < l.length
  · rw [cf_lt h]
    have := hl _ (List.getElem_mem h)
    exact zlen_small (by omega)
  · rw [cf_ge (by omega), zlen_zero]; omega
def Sml (l : List Int) : Prop := ∀ x ∈ l, -9223372036854775808 ≤ x ∧ x ≤ 9223372036854775807
instance (l : List Int) : Decidable (Sml l) := inferInstanceAs (Decidable (∀ x ∈ l, _))

attribute [local simp] RunL_cons RunL_nil AOp_none AOp_some acK_v acK_call agK_tt agK_ff agK_tf agK_ft agK_tup agK_i aop aun St.ev St.heap St.put thenQ blockQ scopeQ upd_apply S0 argSlot lowV V.cells V.isAgg V.fits V.part partOk plains St.ret retSV svOf svsOf retQ retP retAll retOne uL_length uL_get? uL_get St.elems retH ownIdx ownAt
attribute [local simp] RunD_none RunD_some RunD_nil RunE_any acD_v acD_call agD_tt agD_ff agD_tf agD_ft agD_tup entsOf svref SO.opds SO.writes SO.makes callEnt pureSV pureOf RV.isOwn
attribute [local simp] abin_add abin_sub abin_mul abin_quo abin_rem abin_eql abin_neq abin_lss abin_leq abin_gtr abin_geq
attribute [local simp] uL_snoc uL_set uL_take uL_drop uL_append uL_replicate uL_nil
attribute [local simp] acK_callG acD_callG St.giv gsSV gvSV retEnts ownEnts SO.still
attribute [local simp] S0G argSlotG givSV retQG retPG retAllG retOneG HObj.width V.scalar trimQ V.byte
attribute [local simp] zv V.fits fillOk fillV Z_eq
end Go.Vw
set_option linter.unusedVariables false
set_option linter.unusedSimpArgs false
namespace Go.Vw
open Go.Proofs Go.Py

/-- At most 2^i coefficients of at most 2^i limbs. -/
structure Ld (i : Nat) (l : List Int) : Prop where
  pl : PL (2 ^ i) l
  len : l.length ≤ 2 ^ i
structure Rd (i : Nat) (vs : List V) (l : List Int) : Prop where
  isp : IsP (2 ^ i) vs l
  len : vs.length ≤ 2 ^ i
theorem two_le {i j : Nat} (h : i ≤ j) : 2 ^ i ≤ 2 ^ j := Nat.pow_le_pow_right (by omega) h
theorem Ld.mono {i j : Nat} {l : List Int} (h : Ld i l) (hij : i ≤ j) : Ld j l := ⟨h.pl.mono (two_le hij), Nat.le_trans h.len (two_le hij)⟩
theorem Rd.mono {i j : Nat} {vs : List V} {l : List Int} (h : Rd i vs l) (hij : i ≤ j) : Rd j vs l := ⟨h.isp.mono (two_le hij), Nat.le_trans h.len (two_le hij)⟩
theorem Rd.ld {i : Nat} {vs : List V} {l : List Int} (h : Rd i vs l) : Ld i l := ⟨h.isp.pl, by have := h.isp.len; have := h.len; omega⟩
theorem ld_tr {i : Nat} {l : List Int} (h : Ld i l) : Ld i (tr l) := ⟨pl_tr h.pl, Nat.le_trans (tr_len l) h.len⟩
theorem addL_len : ∀ a b : List Int, (addL a b).length = max a.length b.length
  | [], b => by simp [addL]
  | x :: a, [] => by simp [addL]
  | x :: a, y :: b => by simp [addL, addL_len a b]
theorem mulL_len (b : List Int) : ∀ a : List Int, (mulL a b).length ≤ a.length + b.length
  | [] => by simp [mulL]
  | x :: a => by
    have := mulL_len b a
    rw [mulL, addL_len]
    simp [scL]
    omega
theorem ld_add {i : Nat} {a b : List Int} (h : Ld i a) (g : Ld i b) : Ld (i + 1) (addL a b) := by
  have h1 := h.len
  have h2 := g.len
  have h3 : 1 ≤ 2 ^ i := Nat.one_le_two_pow
  refine ⟨(pl_add h.pl g.pl).mono (by rw [Nat.pow_succ]; omega), ?_⟩
  rw [addL_len, Nat.pow_succ]
  omega
theorem ld_sc {i : Nat} {a : List Int} {c : Int} (h : Ld i a) (g : zlen c ≤ 2 ^ i) : Ld (i + 1) (scL c a) := by
  have h1 := h.len
  refine ⟨(pl_sc h.pl g).mono (by rw [Nat.pow_succ]; omega), ?_⟩
  simp [scL, Nat.pow_succ]
  omega
theorem ld_mul {i : Nat} {a b : List Int} (h : Ld i a) (g : Ld i b) : Ld (i + 2) (mulL a b) := by
  have h1 := h.len
  have h2 := g.len
  have h3 := mulL_len b a
  refine ⟨(pl_mul g.pl h.pl).mono (by rw [Nat.pow_succ, Nat.pow_succ]; omega), ?_⟩
  rw [Nat.pow_succ, Nat.pow_succ]
  omega
theorem ld_rd {w n i : Nat} {M : List (Bool × List Nat)} (hw : w ≤ 2 ^ i) (hn : n ≤ 2 ^ i) (hdl : ∀ p ∈ M, ZW (2 ^ 24) p.2) (h : (decide (M.length ≤ n) && smR w M) = true) : Rd i (zL M) (piL M) := by
  simp only [Bool.and_eq_true, decide_eq_true_eq, smR, List.all_eq_true] at h
  exact ⟨isP_zL fun p hp => ⟨(hdl p hp).dl, Nat.le_trans (h.2 p hp) hw⟩, by simp [zL]; omega⟩
theorem Ld.len40 {i : Nat} {l : List Int} (h : Ld i l) (hi : i ≤ 40) : l.length ≤ 2 ^ 40 := Nat.le_trans h.len (two_le hi)
theorem Ld.pl40 {i : Nat} {l : List Int} (h : Ld i l) (hi : i ≤ 40) : PL (2 ^ 40) l := h.pl.mono (two_le hi)

theorem yadd {i : Nat} {vs ws : List V} {a b : List Int} (h : Rd i vs a) (g : Rd i ws b) (hi : i ≤ 30) : Spec Tryz.prog f_zpoly_Add [.sl (some 2) vs, .sl (some 2) ws] (· = [.pure (.sl (some 2) (PZ (tr (addL a b))))]) := by
  have := two_le hi
  exact own_plain (padd h.isp g.isp this (Nat.le_trans h.len (by omega)) (Nat.le_trans g.len (by omega)))
theorem ysub {i : Nat} {vs ws : List V} {a b : List Int} (h : Rd i vs a) (g : Rd i ws b) (hi : i ≤ 20) : Spec Tryz.prog f_zpoly_Sub [.sl (some 2) vs, .sl (some 2) ws] (· = [.pure (.sl (some 2) (PZ (tr (addL a (scL (-1) b)))))]) := by
  have := two_le hi
  exact own_plain (psub' h.isp g.isp (by omega) (Nat.le_trans h.len (by omega)) (Nat.le_trans g.len (by omega)))
theorem ymul {i : Nat} {vs ws : List V} {a b : List Int} (h : Rd i vs a) (g : Rd i ws b) (hi : i ≤ 20) : Spec Tryz.prog f_zpoly_Mul [.sl (some 2) vs, .sl (some 2) ws] (· = [.pure (.sl (some 2) (PZ (tr (mulL a b))))]) := by
  have := two_le hi
  exact own_plain (pmul h.isp g.isp (by omega) (Nat.le_trans h.len (by omega)) (Nat.le_trans g.len (by omega)))
theorem ynorm {i : Nat} {vs : List V} {a : List Int} (h : Rd i vs a) (hi : i ≤ 40) : Spec Tryz.prog f_zpoly_Norm [.sl (some 2) vs] (· = [.pure (.sl (some 2) (PZ (tr a)))]) := by
  have := two_le hi
  exact own_plain (pnorm h.isp this (Nat.le_trans h.len (by omega)))
theorem yscale {i : Nat} {vs : List V} {a : List Int} {v : V} {c : Int} (h : Rd i vs a) (g : IsZ (2 ^ i) v c) (hi : i ≤ 20) : Spec Tryz.prog f_zpoly_Scale [.sl (some 2) vs, v] (· = [.pure (.sl (some 2) (PZ (tr (scL c a))))]) := by
  have := two_le hi
  exact own_plain (pscale h.isp g (by omega) (by omega) (Nat.le_trans h.len (by omega)))
theorem ld_de {i : Nat} {a : List Int} (h : Ld i a) (hi : i ≤ 40) : Ld (i + 1) (deL a) := by
  have h3 : 1 ≤ 2 ^ i := Nat.one_le_two_pow
  have h1 := h.len
  refine ⟨(pl_de h.pl (Nat.le_trans h1 (two_le hi))).mono (by rw [Nat.pow_succ]; omega), ?_⟩
  have : ∀ l : List Int, (deL l).length ≤ l.length := by
    intro l
    induction l with
    | nil => simp [deL]
    | cons x l ih => rw [deL, addL_len, List.length_cons, List.length_cons]; omega
  have := this a
  rw [Nat.pow_succ]; omega
theorem yderiv {i : Nat} {vs : List V} {a : List Int} (h : Rd i vs a) (hi : i ≤ 20) : Spec Tryz.prog f_zpoly_Deriv [.sl (some 2) vs] (· = [.pure (.sl (some 2) (PZ (tr (deL a))))]) := by
  have := two_le hi
  exact own_plain (pderiv h.isp this (Nat.le_trans h.len (by omega)))
theorem ld_pp {i : Nat} {a : List Int} (h : Ld i a) : Ld i (ppL a) := by
  refine ⟨fun j => ?_, ?_⟩
  · rw [cf_ppL]
    refine Nat.le_trans (zlen_le ?_) (h.pl j)
    rw [Int.natAbs_ediv_of_dvd (coL_dvd a j)]
    exact Nat.div_le_self _ _
  · have := tr_len a
    have := h.len
    simp [ppL]; omega
theorem yprim {i : Nat} {vs : List V} {a : List Int} (h : Rd i vs a) (hi : i ≤ 30) : Spec Tryz.prog f_zpoly_Prim [.sl (some 2) vs] (· = [.pure (.sl (some 2) (PZ (ppL a)))]) := by
  have := two_le hi
  exact own_plain (pprim h.isp this (Nat.le_trans h.len (by omega)))
theorem ycontent {i : Nat} {vs : List V} {a : List Int} (h : Rd i vs a) (hi : i ≤ 30) : Spec Tryz.prog f_zpoly_Content [.sl (some 2) vs] (· = [.pure (Z (coL a))]) := by
  have := two_le hi
  exact pcontent h.isp this (Nat.le_trans h.len (by omega))
end Go.Vw
set_option linter.unusedVariables false
set_option linter.unusedSimpArgs false
namespace Go.Vw
open Go.Proofs Go.Py

attribute [local simp] RunL_cons RunL_nil AOp_none AOp_some acK_v acK_call agK_tt agK_ff agK_tf agK_ft agK_tup agK_i aop aun St.ev St.heap St.put thenQ blockQ scopeQ upd_apply S0 argSlot lowV V.cells V.isAgg V.fits V.part partOk plains St.ret retSV svOf svsOf retQ retP retAll retOne uL_length uL_get? uL_get St.elems retH ownIdx ownAt
attribute [local simp] RunD_none RunD_some RunD_nil RunE_any acD_v acD_call agD_tt agD_ff agD_tf agD_ft agD_tup entsOf svref SO.opds SO.writes SO.makes callEnt pureSV pureOf RV.isOwn
attribute [local simp] abin_add abin_sub abin_mul abin_quo abin_rem abin_eql abin_neq abin_lss abin_leq abin_gtr abin_geq
attribute [local simp] uL_snoc uL_set uL_take uL_drop uL_append uL_replicate uL_nil
attribute [local simp] acK_callG acD_callG St.giv gsSV gvSV retEnts ownEnts SO.still
attribute [local simp] S0G argSlotG givSV retQG retPG retAllG retOneG HObj.width V.scalar trimQ V.byte
attribute [local simp] zv V.fits fillOk fillV Z_eq
end Go.Vw
set_option linter.unusedVariables false
set_option linter.unusedSimpArgs false
namespace Go.Vw
open Go.Proofs Go.Py

theorem rsame2 {x : Int} {k : Nat} (h : zlen x ≤ k) (hk : k ≤ 2 ^ 40) : Spec Tryz.prog f_ref02_Same [Z x, Z x] (· = [.pure (.b true)]) := zsame x (by omega)
theorem small_of {n w : Nat} {Ms : List (List (Bool × List Nat))} (hs : smB n w Ms = true) {M : List (Bool × List Nat)} (hM : M ∈ Ms) : (decide (M.length ≤ n) && smR w M) = true := by
  rw [smB, List.all_eq_true] at hs
  exact hs M hM

attribute [local simp] RunL_cons RunL_nil AOp_none AOp_some acK_v acK_call agK_tt agK_ff agK_tf agK_ft agK_tup agK_i aop aun St.ev St.heap St.put thenQ blockQ scopeQ upd_apply S0 argSlot lowV V.cells V.isAgg V.fits V.part partOk plains St.ret retSV svOf svsOf retQ retP retAll retOne uL_length uL_get? uL_get St.elems retH ownIdx ownAt
attribute [local simp] RunD_none RunD_some RunD_nil RunE_any acD_v acD_call agD_tt agD_ff agD_tf agD_ft agD_tup entsOf svref SO.opds SO.writes SO.makes callEnt pureSV pureOf RV.isOwn
attribute [local simp] abin_add abin_sub abin_mul abin_quo abin_rem abin_eql abin_neq abin_lss abin_leq abin_gtr abin_geq
attribute [local simp] uL_snoc uL_set uL_take uL_drop uL_append uL_replicate uL_nil
attribute [local simp] acK_callG acD_callG St.giv gsSV gvSV retEnts ownEnts SO.still
attribute [local simp] S0G argSlotG givSV retQG retPG retAllG retOneG HObj.width V.scalar trimQ V.byte
attribute [local simp] zv V.fits fillOk fillV Z_eq
end Go.Vw
set_option linter.unusedVariables false
set_option linter.unusedSimpArgs false
namespace Go.Vw
open Go.Proofs Go.Py

attribute [local simp] RunL_cons RunL_nil AOp_none AOp_some acK_v acK_call agK_tt agK_ff agK_tf agK_ft agK_tup agK_i aop aun St.ev St.heap St.put thenQ blockQ scopeQ upd_apply S0 argSlot lowV V.cells V.isAgg V.fits V.part partOk plains St.ret retSV svOf svsOf retQ retP retAll retOne uL_length uL_get? uL_get St.elems retH ownIdx ownAt
attribute [local simp] RunD_none RunD_some RunD_nil RunE_any acD_v acD_call agD_tt agD_ff agD_tf agD_ft agD_tup entsOf svref SO.opds SO.writes SO.makes callEnt pureSV pureOf RV.isOwn
attribute [local simp] abin_add abin_sub abin_mul abin_quo abin_rem abin_eql abin_neq abin_lss abin_leq abin_gtr abin_geq
attribute [local simp] uL_snoc uL_set uL_take uL_drop uL_append uL_replicate uL_nil
attribute [local simp] acK_callG acD_callG St.giv gsSV gvSV retEnts ownEnts SO.still
attribute [local simp] S0G argSlotG givSV retQG retPG retAllG retOneG HObj.width V.scalar trimQ V.byte
attribute [local simp] zv V.fits fillOk fillV Z_eq
end Go.Vw
set_option linter.unusedVariables false
set_option linter.unusedSimpArgs false
namespace Go.Vw
open Go.Proofs Go.Py

theorem pl_sh {k j : Nat} {s : Int} (hs : zlen s ≤ j) : ∀ {a : List Int}, PL k a → PL (k + a.length * (j + 4)) (shL s a)
  | [], h => fun i => by rw [shL, cf_nil, zlen_zero]; omega
  | c :: a, h => fun i => by
    have hc : zlen c ≤ k := by have := h 0; rwa [cf_zero] at this
    have ih := pl_sh hs (a := a) (fun i => by have := h (i + 1); rwa [cf_succ] at this)
    rw [shL, cf_addL, mulL_comm _ _ i, cf_one, List.length_cons, Nat.succ_mul]
    have h1 := pl_mul ih (k := j + 1) (a := [s, 1]) (fun i => by
      cases i with
      | zero => simpa using (by omega : zlen s ≤ j + 1)
      | succ i => cases i with
        | zero => have := zlen_one; simp; omega
        | succ i => rw [cf_succ, cf_succ, cf_nil, zlen_zero]; omega) i
    simp only [List.length_cons, List.length_nil] at h1
    split
    · have := zlen_add (cf (mulL [s, 1] (shL s a)) i) c
      omega
    · have := zlen_add (cf (mulL [s, 1] (shL s a)) i) 0
      rw [zlen_zero] at this
      omega
theorem sh_len (s : Int) (a : List Int) : (tr (shL s a)).length = (tr a).length := by
  rw [tr_of_eqp (shL_eqp s (cf_tr a).symm), ← spL_tr s (tr_tr a), spL_len s _ _ rfl]

attribute [local simp] RunL_cons RunL_nil AOp_none AOp_some acK_v acK_call agK_tt agK_ff agK_tf agK_ft agK_tup agK_i aop aun St.ev St.heap St.put thenQ blockQ scopeQ upd_apply S0 argSlot lowV V.cells V.isAgg V.fits V.part partOk plains St.ret retSV svOf svsOf retQ retP retAll retOne uL_length uL_get? uL_get St.elems retH ownIdx ownAt
attribute [local simp] RunD_none RunD_some RunD_nil RunE_any acD_v acD_call agD_tt agD_ff agD_tf agD_ft agD_tup entsOf svref SO.opds SO.writes SO.makes callEnt pureSV pureOf RV.isOwn
attribute [local simp] abin_add abin_sub abin_mul abin_quo abin_rem abin_eql abin_neq abin_lss abin_leq abin_gtr abin_geq
attribute [local simp] uL_snoc uL_set uL_take uL_drop uL_append uL_replicate uL_nil
attribute [local simp] acK_callG acD_callG St.giv gsSV gvSV retEnts ownEnts SO.still
attribute [local simp] S0G argSlotG givSV retQG retPG retAllG retOneG HObj.width V.scalar trimQ V.byte
attribute [local simp] zv V.fits fillOk fillV Z_eq
end Go.Vw
set_option linter.unusedVariables false
set_option linter.unusedSimpArgs false
namespace Go.Vw
open Go.Proofs Go.Py

theorem rsL_len (p : Int) (l : List Int) : (rsL p l).length ≤ l.length := by
  have := tr_len ((List.range l.length).map fun i => cf l i % p)
  rw [rsL]
  simpa using this
def S6S (l : List Int) (S : St) : Prop := ∃ i : Nat, i ≤ l.length ∧ S.σ 0 = .p (.sl none (IL l)) ∧ S.σ 1 = .p (.sl none (IL l)) ∧ S.σ 5 = .p (.i .i64 (i : Int))

attribute [local simp] RunL_cons RunL_nil AOp_none AOp_some acK_v acK_call agK_tt agK_ff agK_tf agK_ft agK_tup agK_i aop aun St.ev St.heap St.put thenQ blockQ scopeQ upd_apply S0 argSlot lowV V.cells V.isAgg V.fits V.part partOk plains St.ret retSV svOf svsOf retQ retP retAll retOne uL_length uL_get? uL_get St.elems retH ownIdx ownAt
attribute [local simp] RunD_none RunD_some RunD_nil RunE_any acD_v acD_call agD_tt agD_ff agD_tf agD_ft agD_tup entsOf svref SO.opds SO.writes SO.makes callEnt pureSV pureOf RV.isOwn
attribute [local simp] abin_add abin_sub abin_mul abin_quo abin_rem abin_eql abin_neq abin_lss abin_leq abin_gtr abin_geq
attribute [local simp] uL_snoc uL_set uL_take uL_drop uL_append uL_replicate uL_nil
attribute [local simp] acK_callG acD_callG St.giv gsSV gvSV retEnts ownEnts SO.still
attribute [local simp] S0G argSlotG givSV retQG retPG retAllG retOneG HObj.width V.scalar trimQ V.byte
attribute [local simp] zv V.fits fillOk fillV Z_eq
theorem same6 (l : List Int) (hn : l.length ≤ 2 ^ 40) : Spec Tryz.prog f_ref06_Same [.sl none (IL l), .sl none (IL l)] (· = [.pure (.b true)]) := by
  have hpl := IL_length l
  refine spec_at Tryz.func27 ok_ref06_Same [] rfl (by simp) ?_
  unfold sc_ref06_Same
  refine WS_seq (WS_reg [] ?_); simp [hpl]
  refine WS_seq (WS_seq (WS_reg [] ?_)); simp [hpl]
  refine WS_cond (t := false) (by simp [hpl]) (fun h => by cases h) (fun _ => ?_)
  refine WS_skip ?_; simp [hpl]
  refine WS_seq (WS_seq (WS_reg [] ?_)); simp [hpl]
  refine WS_block ?_
  refine WS_loop (S6S l) (fun S => l.length - nM 5 S) ⟨0, by omega, rfl, rfl, rfl⟩ ?_
  rintro S ⟨i, hi, s0, s1, s5⟩
  have d5 := nM_eq s5
  by_cases hlt : i < l.length
  · have hget := IL_get l i (by omega)
    have hltI : (i : Int) < (l.length : Int) := by omega
    have wi := i64_succ i (by omega)
    obtain ⟨O, hO⟩ : ∃ O, O = IL l := ⟨_, rfl⟩
    simp only [← hO] at hget
    rw [← hO] at hpl s0 s1
    refine WS_seq (WS_seq (WS_reg [] ?_)); simp [s0, s1, s5, hlt, hltI, hpl, wi, hget]
    refine WS_cond (t := true) (by simp [s0, s1, s5, hlt, hltI, hpl, wi, hget]) (fun _ => ?_) (fun h => by cases h)
    refine WS_skip ?_; simp [s0, s1, s5, hlt, hltI, hpl, wi, hget]
    refine WS_seq (WS_block (WS_seq (WS_regD [] ?_))); simp [s0, s1, s5, hlt, hltI, hpl, wi, hget]
    refine ⟨rfl, ?_⟩
    refine WS_cond (t := false) (by simp [s0, s1, s5, hlt, hltI, hpl, wi, hget]) (fun h => by cases h) (fun _ => ?_)
    refine WS_skip ?_; simp [s0, s1, s5, hlt, hltI, hpl, wi, hget]
    refine WS_reg [] ?_; simp [s0, s1, s5, hlt, hltI, hpl, wi, hget]
    refine ⟨⟨i + 1, by omega, by simp [s0, hO], by simp [s1, hO], by simp⟩, ?_⟩
    show l.length - nM 5 _ < l.length - nM 5 S
    rw [d5, nM_eq (i := 5) (n := i + 1) (by simp)]
    omega
  · obtain rfl : i = l.length := by omega
    have hltI : ¬ (l.length : Int) < (l.length : Int) := by omega
    refine WS_seq (WS_seq (WS_reg [] ?_)); simp [s0, s1, s5, hpl, hltI]
    refine WS_cond (t := false) (by simp [s0, s1, s5, hpl, hltI]) (fun h => by cases h) (fun _ => ?_)
    refine WS_exit ?_; simp [s0, s1, s5, hpl, hltI]
    refine WS_seq (WS_reg [] ?_); simp [s0, s1, s5, hpl, hltI]
    refine WS_ret ?_; simp [s0, s1, s5, hpl, hltI]

end Go.Vw
set_option linter.unusedVariables false
set_option linter.unusedSimpArgs false
namespace Go.Vw
open Go.Proofs Go.Py

def RaJ (vs ws : List V) (T : List Int) (S : St) : Prop := ∃ i g : Nat, i ≤ T.length ∧ S.σ 0 = .p (.sl (some 2) vs) ∧ S.σ 1 = .p (.sl (some 2) ws) ∧ S.σ 6 = .p (.i .i64 (i : Int)) ∧ S.σ 5 = .own 5 g 0 i ∧ S.h 5 = ⟨g, some (.arr 25 (some 2) (PZ (T.take i)))⟩

attribute [local simp] RunL_cons RunL_nil AOp_none AOp_some acK_v acK_call agK_tt agK_ff agK_tf agK_ft agK_tup agK_i aop aun St.ev St.heap St.put thenQ blockQ scopeQ upd_apply S0 argSlot lowV V.cells V.isAgg V.fits V.part partOk plains St.ret retSV svOf svsOf retQ retP retAll retOne uL_length uL_get? uL_get St.elems retH ownIdx ownAt
attribute [local simp] RunD_none RunD_some RunD_nil RunE_any acD_v acD_call agD_tt agD_ff agD_tf agD_ft agD_tup entsOf svref SO.opds SO.writes SO.makes callEnt pureSV pureOf RV.isOwn
attribute [local simp] abin_add abin_sub abin_mul abin_quo abin_rem abin_eql abin_neq abin_lss abin_leq abin_gtr abin_geq
attribute [local simp] uL_snoc uL_set uL_take uL_drop uL_append uL_replicate uL_nil
attribute [local simp] acK_callG acD_callG St.giv gsSV gvSV retEnts ownEnts SO.still
attribute [local simp] S0G argSlotG givSV retQG retPG retAllG retOneG HObj.width V.scalar trimQ V.byte
attribute [local simp] zv V.fits fillOk fillV Z_eq
theorem rat10 {k : Nat} {vs : List V} {l : List Int} (hv : IsP k vs l) (i : Nat) : ∃ n d, Spec Tryz.prog f_ref10_At [.sl (some 2) vs, .i .i64 (i : Int)] (· = [.pure (.agg [.b n, .sl none (uL d)])]) ∧ ZW k d ∧ zi n d = cf l i := by
  by_cases hlt : i < vs.length
  · obtain ⟨b, d, hvi, hzw, hzi⟩ := hv.cell i hlt
    refine ⟨b, d, ?_, hzw, hzi⟩
    have hltI : (i : Int) < (vs.length : Int) := by omega
    refine spec_at Tryz.func58 ok_ref10_At [] rfl (by simp) ?_
    unfold sc_ref10_At
    refine WS_seq (WS_reg [] ?_); simp [hlt, hltI, hvi]
    refine WS_seq (WS_seq (WS_reg [] ?_)); simp [hlt, hltI, hvi]
    refine WS_cond (t := true) (by simp [hlt, hltI, hvi]) (fun _ => ?_) (fun h => by cases h)
    refine WS_seq (WS_reg [] ?_); simp [hlt, hltI, hvi]
    refine WS_ret ?_; simp [hlt, hltI, hvi]
  · refine ⟨false, [], ?_, ⟨by simp [Nm.Dl], by simp⟩, by rw [cf_ge (by have := hv.len; omega)]; rfl⟩
    have hltI : ¬ (i : Int) < (vs.length : Int) := by omega
    refine spec_at Tryz.func58 ok_ref10_At [] rfl (by simp) ?_
    unfold sc_ref10_At
    refine WS_seq (WS_reg [] ?_); simp [hlt, hltI, uL]
    refine WS_seq (WS_seq (WS_reg [] ?_)); simp [hlt, hltI, uL]
    refine WS_cond (t := false) (by simp [hlt, hltI, uL]) (fun h => by cases h) (fun _ => ?_)
    refine WS_skip ?_; simp [hlt, hltI, uL]
    refine WS_seq (WS_reg [] ?_); simp [hlt, hltI, uL]
    refine WS_ret ?_; simp [hlt, hltI, uL]
set_option maxHeartbeats 1000000 in
theorem radd10 {k : Nat} {vs ws : List V} {a b : List Int} (hv : IsP k vs a) (hw : IsP k ws b) (hk : k ≤ 2 ^ 30) (hn : vs.length ≤ 2 ^ 40) (hn2 : ws.length ≤ 2 ^ 40) : Spec Tryz.prog f_ref10_Add [.sl (some 2) vs, .sl (some 2) ws] (· = [.own 25 (some 2) (PZ (tr (addL a b)))]) := by
  have hl1 := hv.len
  have hl2 := hw.len
  have hal := addL_len a b
  have nm := rnorm10 (isP_PZ (pl_add hv.pl hw.pl)) (by omega) (by rw [PZ_length, hal]; omega)
  have hTi : ∀ i, cf (addL a b) i = cf a i + cf b i := cf_addL a b
  obtain ⟨T, hT⟩ : ∃ T, T = addL a b := ⟨_, rfl⟩
  rw [← hT] at hal nm hTi ⊢
  clear hT
  have hmx : (if (vs.length : Int) < (ws.length : Int) then (ws.length : Int) else (vs.length : Int)) = (T.length : Int) := by split <;> omega
  have hmx2 : (if vs.length < ws.length then (ws.length : Int) else (vs.length : Int)) = (T.length : Int) := by split <;> omega
  refine spec_at Tryz.func13 ok_ref10_Add [true] rfl (by simp) ?_
  unfold sc_ref10_Add
  refine WS_seq (WS_reg [] ?_); simp
  refine WS_seq (WS_reg [5] ?_); simp
  refine WS_seq (WS_seq (WS_reg [] ?_)); simp
  refine WS_block ?_
  refine WS_loop (RaJ vs ws T) (fun S => T.length - nM 6 S) ⟨0, 1, by omega, rfl, rfl, rfl, rfl, by simp [PZ]⟩ ?_
  rintro S ⟨i, g, hi, s0, s1, s6, s5, h5⟩
  have d6 := nM_eq s6
  by_cases hlt : i < T.length
  · obtain ⟨n1, d1, at1, z1, v1⟩ := rat10 hv i
    obtain ⟨n2, d2, at2, z2, v2⟩ := rat10 hw i
    have ad := radd (isZ_zv (n := n1) (z1.mono (show k ≤ 2 ^ 30 by omega))) (isZ_zv (n := n2) (z2.mono (show k ≤ 2 ^ 30 by omega))) (by omega)
    rw [v1, v2, ← hTi] at ad
    have hltI : (i : Int) < (T.length : Int) := by omega
    have wi := i64_succ i (by omega)
    have hpl : (PZ (T.take i)).length = i := by rw [PZ_length]; simp; omega
    have hsn := PZ_snoc (T.take i) (cf T i)
    rw [show T.take i ++ [cf T i] = T.take (i + 1) by rw [List.take_succ_eq_append_getElem hlt, cf_lt hlt], Z_eq] at hsn
    obtain ⟨O, hO⟩ : ∃ O, O = PZ (T.take i) := ⟨_, rfl⟩
    rw [← hO] at hpl hsn h5
    have hto : O.take i = O := List.take_of_length_le (by omega)
    obtain ⟨y, hy⟩ : ∃ y, y = cf T i := ⟨_, rfl⟩
    rw [← hy] at ad hsn
    refine WS_seq (WS_seq (WS_reg [] ?_)); simp [s0, s1, s6, s5, h5, hlt, hltI, hmx, hmx2, wi, hpl, hto]
    refine WS_cond (t := true) (by simp [s0, s1, s6, s5, h5, hlt, hltI, hmx, hmx2, wi, hpl, hto]) (fun _ => ?_) (fun h => by cases h)
    refine WS_skip ?_; simp [s0, s1, s6, s5, h5, hlt, hltI, hmx, hmx2, wi, hpl, hto]
    refine WS_seq (WS_block (WS_reg [] ?_)); simp [s0, s1, s6, s5, h5, hlt, hltI, hmx, hmx2, wi, hpl, hto]
    refine callK at1 ?_; simp [s0, s1, s6, s5, h5, hlt, hltI, hmx, hmx2, wi, hpl, hto]
    refine callK at2 ?_; simp [s0, s1, s6, s5, h5, hlt, hltI, hmx, hmx2, wi, hpl, hto]
    refine callK ad ?_; simp [s0, s1, s6, s5, h5, hlt, hltI, hmx, hmx2, wi, hpl, hto]
    refine ⟨by omega, ?_⟩
    refine WS_reg [] ?_; simp [s0, s1, s6, s5, h5, hlt, hltI, hmx, hmx2, wi, hpl, hto]
    refine ⟨⟨i + 1, g + 1, by omega, by simp [s0], by simp [s1], by simp, by simp, by simp [hsn]⟩, ?_⟩
    show T.length - nM 6 _ < T.length - nM 6 S
    rw [d6, nM_eq (i := 6) (n := i + 1) (by simp)]
    omega
  · obtain rfl : i = T.length := by omega
    have hltI : ¬ (T.length : Int) < (T.length : Int) := by omega
    rw [List.take_length] at h5
    have hpl := PZ_length T
    obtain ⟨O, hO⟩ : ∃ O, O = PZ T := ⟨_, rfl⟩
    rw [← hO] at hpl h5 nm
    have hto : O.take T.length = O := List.take_of_length_le (by omega)
    obtain ⟨R, hR⟩ : ∃ R, R = PZ (tr T) := ⟨_, rfl⟩
    rw [← hR] at nm ⊢
    refine WS_seq (WS_seq (WS_reg [] ?_)); simp [s0, s1, s6, s5, h5, hltI, hmx, hmx2, hpl, hto]
    refine WS_cond (t := false) (by simp [s0, s1, s6, s5, h5, hltI, hmx, hmx2, hpl, hto]) (fun h => by cases h) (fun _ => ?_)
    refine WS_exit ?_; simp [s0, s1, s6, s5, h5, hltI, hmx, hmx2, hpl, hto]
    refine WS_frz 5 5 none ?_
    simp [frzQ, s5, h5, hpl, hto]
    refine WS_seq (WS_reg [] ?_); simp [s0, s1, s6, s5, h5, hltI, hmx, hmx2, hpl, hto]
    refine callK nm ?_; simp [s0, s1, s6, s5, h5, hltI, hmx, hmx2, hpl, hto]
    refine WS_ret ?_; simp [s0, s1, s6, s5, h5, hltI, hmx, hmx2, hpl, hto]
theorem rsub10 {k : Nat} {vs ws : List V} {a b : List Int} (hv : IsP k vs a) (hw : IsP k ws b) (hk : k ≤ 2 ^ 25) (hn : vs.length ≤ 2 ^ 40) (hn2 : ws.length ≤ 2 ^ 40) : Spec Tryz.prog f_ref10_Sub [.sl (some 2) vs, .sl (some 2) ws] (· = [.own 25 (some 2) (PZ (tr (addL a (scL (-1) b))))]) := by
  have o1 := rof (-1) (by omega) (by omega)
  have l1 : zlen (-1) ≤ 1 := zlen_small (by decide)
  have sc := own_plain (rscale10 hw (isZ_of l1) (by omega) (by omega) hn2)
  have hl : (PZ (tr (scL (-1) b))).length ≤ ws.length := by
    rw [PZ_length]
    have h1 := tr_len (scL (-1) b)
    have h2 : (scL (-1) b).length = b.length := by simp [scL]
    have := hw.len
    omega
  have ad := radd10 (hv.mono (show k ≤ k + 1 by omega)) (isP_PZ (pl_tr (pl_sc (c := -1) hw.pl l1))) (by omega) hn (by omega)
  have e : tr (addL a (tr (scL (-1) b))) = tr (addL a (scL (-1) b)) := tr_of_eqp (eqp_addL Eqp.rfl' (cf_tr _))
  rw [e] at ad
  obtain ⟨L, hL⟩ : ∃ L, L = PZ (tr (scL (-1) b)) := ⟨_, rfl⟩
  rw [← hL] at sc ad
  obtain ⟨R, hR⟩ : ∃ L, L = PZ (tr (addL a (scL (-1) b))) := ⟨_, rfl⟩
  rw [← hR] at ad ⊢
  refine spec_at Tryz.func15 ok_ref10_Sub [true] rfl (by simp) ?_
  unfold sc_ref10_Sub
  refine WS_seq (WS_reg [] ?_); simp
  refine WS_seq (WS_reg [] ?_); simp
  refine callK o1 ?_; simp
  refine callK sc ?_; simp
  refine callK ad ?_; simp
  refine WS_ret ?_; simp
end Go.Vw
set_option linter.unusedVariables false
set_option linter.unusedSimpArgs false
namespace Go.Vw
open Go.Proofs Go.Py

def RmK (N : Nat) (k : Nat) (vs ws : List V) (a b : List Int) (i m : Nat) (S : St) : Prop := ∃ o, MuR k a b N i m o ∧ S.σ 5 = .own 13 1 0 N ∧ S.h 13 = ⟨1, some (.arr 25 (some 2) (PZ o))⟩ ∧ S.σ 0 = .p (.sl (some 2) vs) ∧ S.σ 1 = .p (.sl (some 2) ws) ∧ S.σ 6 = .p (.i .i64 (i : Int))
def RmS (N k : Nat) (vs ws : List V) (a b : List Int) (S : St) : Prop := ∃ i : Nat, i ≤ vs.length ∧ RmK N k vs ws a b i 0 S
def RmJ (N k : Nat) (vs ws : List V) (a b : List Int) (i : Nat) (S : St) : Prop := ∃ m : Nat, m ≤ ws.length ∧ S.σ 7 = .p (.i .i64 (m : Int)) ∧ RmK N k vs ws a b i m S

attribute [local simp] RunL_cons RunL_nil AOp_none AOp_some acK_v acK_call agK_tt agK_ff agK_tf agK_ft agK_tup agK_i aop aun St.ev St.heap St.put thenQ blockQ scopeQ upd_apply S0 argSlot lowV V.cells V.isAgg V.fits V.part partOk plains St.ret retSV svOf svsOf retQ retP retAll retOne uL_length uL_get? uL_get St.elems retH ownIdx ownAt
attribute [local simp] RunD_none RunD_some RunD_nil RunE_any acD_v acD_call agD_tt agD_ff agD_tf agD_ft agD_tup entsOf svref SO.opds SO.writes SO.makes callEnt pureSV pureOf RV.isOwn
attribute [local simp] abin_add abin_sub abin_mul abin_quo abin_rem abin_eql abin_neq abin_lss abin_leq abin_gtr abin_geq
attribute [local simp] uL_snoc uL_set uL_take uL_drop uL_append uL_replicate uL_nil
attribute [local simp] acK_callG acD_callG St.giv gsSV gvSV retEnts ownEnts SO.still
attribute [local simp] S0G argSlotG givSV retQG retPG retAllG retOneG HObj.width V.scalar trimQ V.byte
attribute [local simp] zv V.fits fillOk fillV Z_eq
set_option maxHeartbeats 1000000 in
theorem rmul10 {k : Nat} {vs ws : List V} {a b : List Int} (hv : IsP k vs a) (hw : IsP k ws b) (hk : k ≤ 2 ^ 22) (hn : vs.length ≤ 2 ^ 20) (hn2 : ws.length ≤ 2 ^ 20) :
    Spec Tryz.prog f_ref10_Mul [.sl (some 2) vs, .sl (some 2) ws] (· = [.own 25 (some 2) (PZ (tr (mulL a b)))]) := by
  have hla := hv.len
  have hlb := hw.len
  obtain ⟨N, hN⟩ : ∃ N, N = vs.length + ws.length := ⟨_, rfl⟩
  have wN : IntKind.i64.wrap ((vs.length : Int) + (ws.length : Int)) = (N : Int) := by rw [show (vs.length : Int) + (ws.length : Int) = (N : Int) by omega]; exact i64_nat _ (by omega)
  have hz : List.replicate N (V.agg [.b false, .sl none []]) = PZ (List.replicate N 0) := PZ_replicate N
  refine spec_at Tryz.func17 ok_ref10_Mul [true] rfl (by simp) ?_
  unfold sc_ref10_Mul
  refine WS_seq (WS_reg [] ?_); simp [wN]
  refine WS_seq (WS_reg [] ?_); simp [wN]
  refine ⟨by omega, ?_⟩
  refine WS_seq (WS_seq (WS_reg [] ?_)); simp [wN]
  refine WS_block ?_
  refine WS_loop (RmS N k vs ws a b) (fun S => vs.length - nM 6 S) ⟨0, by omega, _, muR_first k a b N, rfl, by simp [hz], rfl, rfl, rfl⟩ ?_
  rintro S ⟨i, hi, o, hR, s5, h13, s0, s1, s6⟩
  have d6 := nM_eq s6
  by_cases hlt : i < vs.length
  · obtain ⟨n, d, hvi, hz1, hzi⟩ := hv.cell i hlt
    have hltI : (i : Int) < (vs.length : Int) := by omega
    have wi := i64_succ i (by omega)
    refine WS_seq (WS_seq (WS_reg [] ?_)); simp [s5, h13, s0, s1, s6, hlt, hltI, hvi]
    refine WS_cond (t := true) (by simp [s5, h13, s0, s1, s6, hlt, hltI, hvi]) (fun _ => ?_) (fun h => by cases h)
    refine WS_skip ?_; simp [s5, h13, s0, s1, s6, hlt, hltI, hvi]
    refine WS_seq (WS_block (WS_seq (WS_reg [] ?_))); simp [s5, h13, s0, s1, s6, hlt, hltI, hvi]
    refine WS_block ?_
    refine WS_loop (RmJ N k vs ws a b i) (fun S => ws.length - nM 7 S) ⟨0, by omega, by simp, o, hR, by simp [s5], by simp [h13], by simp [s0], by simp [s1], by simp [s6]⟩ ?_
    clear s5 h13 s0 s1 s6 hR o
    rintro S' ⟨m, hm, s7, o, hR, s5, h13, s0, s1, s6⟩
    have d7 := nM_eq s7
    by_cases hlt2 : m < ws.length
    · obtain ⟨n2, d2, hwm, hz2, hzm⟩ := hw.cell m hlt2
      have hltI2 : (m : Int) < (ws.length : Int) := by omega
      have wm := i64_succ m (by omega)
      have wim : IntKind.i64.wrap ((i : Int) + (m : Int)) = (i : Int) + (m : Int) := by rw [show (i : Int) + (m : Int) = ((i + m : Nat) : Int) by omega]; exact i64_nat _ (by omega)
      have tn : ((i : Int) + (m : Int)).toNat = i + m := by omega
      have hI1 : (0 : Int) ≤ (i : Int) + (m : Int) := by omega
      have hI2 : (i : Int) + (m : Int) < (N : Int) := by omega
      have hiN : i + m < N := by omega
      have hpl : (PZ o).length = N := by rw [PZ_length, hR.len]
      have hget := PZ_get o (i + m) (by omega)
      have mu := rmul (hv.get i hlt) (hw.get m hlt2) (by omega)
      rw [hvi, hwm] at mu
      have l1 := hR.lim (i + m)
      rw [if_neg (by omega)] at l1
      have l2 := zlen_mul (cf a i) (cf b m)
      have l3 := hv.pl i
      have l4 := hw.pl m
      have ad := radd (isZ_of (x := cf o (i + m)) (k := 2 ^ 24) (by omega)) (isZ_of (x := cf a i * cf b m) (k := 2 ^ 24) (by omega)) (by omega)
      have hst := muR_step hR hv.pl hw.pl hiN
      have hset := PZ_set o (i + m) (cf o (i + m) + cf a i * cf b m)
      rw [Z_eq] at hset
      obtain ⟨p, hp⟩ : ∃ p, p = cf a i * cf b m := ⟨_, rfl⟩
      rw [← hp] at mu ad hst hset
      obtain ⟨q, hq⟩ : ∃ q, q = cf o (i + m) + p := ⟨_, rfl⟩
      rw [← hq] at ad hst hset
      obtain ⟨O, hO⟩ : ∃ O, O = PZ o := ⟨_, rfl⟩
      simp only [← hO] at hget
      rw [← hO] at hpl h13 hset
      refine WS_seq (WS_seq (WS_reg [] ?_)); simp [s5, h13, s0, s1, s6, s7, hlt, hltI, hvi, hlt2, hltI2, hwm, wm, wim, tn, hI1, hI2, hpl, hiN, hget, hset]
      refine WS_cond (t := true) (by simp [s5, h13, s0, s1, s6, s7, hlt, hltI, hvi, hlt2, hltI2, hwm, wm, wim, tn, hI1, hI2, hpl, hiN, hget, hset]) (fun _ => ?_) (fun h => by cases h)
      refine WS_skip ?_; simp [s5, h13, s0, s1, s6, s7, hlt, hltI, hvi, hlt2, hltI2, hwm, wm, wim, tn, hI1, hI2, hpl, hiN, hget, hset]
      refine WS_seq (WS_block (WS_regD [] ?_)); simp [s5, h13, s0, s1, s6, s7, hlt, hltI, hvi, hlt2, hltI2, hwm, wm, wim, tn, hI1, hI2, hpl, hiN, hget, hset]
      refine callD mu rfl ?_; simp [s5, h13, s0, s1, s6, s7, hlt, hltI, hvi, hlt2, hltI2, hwm, wm, wim, tn, hI1, hI2, hpl, hiN, hget, hset]
      refine callD ad rfl ?_; simp [s5, h13, s0, s1, s6, s7, hlt, hltI, hvi, hlt2, hltI2, hwm, wm, wim, tn, hI1, hI2, hpl, hiN, hget, hset]
      refine ⟨rfl, ?_⟩
      refine WS_reg [] ?_; simp [s5, h13, s0, s1, s6, s7, hlt, hltI, hvi, hlt2, hltI2, hwm, wm, wim, tn, hI1, hI2, hpl, hiN, hget, hset]
      refine ⟨⟨m + 1, by omega, by simp, o.set (i + m) q, hst, by simp [s5], by simp [hset], by simp [s0], by simp [s1], by simp [s6]⟩, ?_⟩
      show ws.length - nM 7 _ < ws.length - nM 7 S'
      rw [d7, nM_eq (i := 7) (n := m + 1) (by simp)]
      omega
    · obtain rfl : m = ws.length := by omega
      have hltI2 : ¬ (ws.length : Int) < (ws.length : Int) := by omega
      have hnx := muR_next (by rw [hlb] at hR; exact hR)
      refine WS_seq (WS_seq (WS_reg [] ?_)); simp [s5, h13, s0, s1, s6, s7, hltI2, wi]
      refine WS_cond (t := false) (by simp [s5, h13, s0, s1, s6, s7, hltI2, wi]) (fun h => by cases h) (fun _ => ?_)
      refine WS_exit ?_; simp [s5, h13, s0, s1, s6, s7, hltI2, wi]
      refine WS_reg [] ?_; simp [s5, h13, s0, s1, s6, s7, hltI2, wi]
      refine ⟨⟨i + 1, by omega, o, hnx, by simp [s5], by simp [h13], by simp [s0], by simp [s1], by simp⟩, ?_⟩
      show vs.length - nM 6 _ < vs.length - nM 6 S
      rw [d6, nM_eq (i := 6) (n := i + 1) (by simp)]
      omega
  · obtain rfl : i = vs.length := by omega
    have hltI : ¬ (vs.length : Int) < (vs.length : Int) := by omega
    have he := muR_end (by rw [hla] at hR; exact hR)
    have pl : PL (2 ^ 24) o := fun j => by
      have := hR.lim j
      rw [if_neg (by omega)] at this
      omega
    have hpl : (PZ o).length = N := by rw [PZ_length, hR.len]
    have nm := rnorm10 (isP_PZ pl) (by omega) (by omega)
    rw [tr_of_eqp he] at nm
    obtain ⟨O, hO⟩ : ∃ O, O = PZ o := ⟨_, rfl⟩
    rw [← hO] at hpl h13 nm
    have htk : O.take N = O := List.take_of_length_le (by omega)
    obtain ⟨R, hRR⟩ : ∃ R, R = PZ (tr (mulL a b)) := ⟨_, rfl⟩
    rw [← hRR] at nm ⊢
    refine WS_seq (WS_seq (WS_reg [] ?_)); simp [s5, h13, s0, s1, s6, hltI, hpl, htk]
    refine WS_cond (t := false) (by simp [s5, h13, s0, s1, s6, hltI, hpl, htk]) (fun h => by cases h) (fun _ => ?_)
    refine WS_exit ?_; simp [s5, h13, s0, s1, s6, hltI, hpl, htk]
    refine WS_frz 13 5 none ?_
    simp [frzQ, s5, h13, hpl, htk]
    refine WS_seq (WS_reg [] ?_); simp [s5, h13, s0, s1, s6, hltI, hpl, htk]
    refine callK nm ?_; simp [s5, h13, s0, s1, s6, hltI, hpl, htk]
    refine WS_ret ?_; simp [s5, h13, s0, s1, s6, hltI, hpl, htk]
end Go.Vw
set_option linter.unusedVariables false
set_option linter.unusedSimpArgs false
namespace Go.Vw
open Go.Proofs Go.Py

theorem tr_len_le {l : List Int} {m : Nat} (h : ∀ i, m ≤ i → cf l i = 0) : (tr l).length ≤ m := by
  by_cases h0 : tr l = []
  · rw [h0]; simp
  · have h1 := tr_last l h0
    rw [cf_tr] at h1
    rcases Nat.lt_or_ge m (tr l).length with h2 | h2
    · exact absurd (h _ (by omega)) h1
    · exact h2
/-- While it is divided, plain and plain again. -/
structure RdI (k : Nat) (x y q r : List Int) : Prop where
  rst : Rst x y q r
  rtr : tr r = r
  qtr : tr q = q
  low : ∀ i, i + y.length ≤ r.length → cf q i = 0
  rlen : r.length ≤ x.length
  qlen : q.length ≤ x.length
  lim : PL (k + (x.length - r.length) * (k + 1)) r
  qlim : PL (k + x.length * (k + 1)) q
theorem rdI_step {k n : Nat} {x y q r : List Int} (h : RdI k x y q r) (hy : tr y = y) (hy0 : y ≠ []) (hr0 : r ≠ []) (hn : n + y.length = r.length) (hk : PL k y) {c : Int} (hm : cf r (r.length - 1) % cf y (y.length - 1) = 0) (hc : c = cf r (r.length - 1) / cf y (y.length - 1))
    (hcl : zlen c ≤ k + (x.length - r.length) * (k + 1)) : RdI k x y (tr (addL q (moL n c))) (tr (addL r (scL (-1) (tr (mulL (moL n c) y))))) ∧ (tr (addL r (scL (-1) (tr (mulL (moL n c) y))))).length < r.length := by
  have ly := List.length_pos_iff.2 hy0
  have lr := List.length_pos_iff.2 hr0
  have e : ∀ j, cf (addL r (scL (-1) (tr (mulL (moL n c) y)))) j = cf r j - if n ≤ j then c * cf y (j - n) else 0 := fun j => by
    rw [cf_addL, cf_scL, cf_tr, cf_moL]; omega
  have hz : ∀ i, n + (tr y).length ≤ i → cf r i = 0 := fun i hi => cf_ge (by rw [hy] at hi; omega)
  have hl := rst_less (n := n) (by rw [hy]; exact hy0) hz (by rw [hy, hn]; exact hm) (by rw [hy, hn, ← hc]; exact e)
  rw [hy, hn] at hl
  have hlt : (tr (addL r (scL (-1) (tr (mulL (moL n c) y))))).length ≤ r.length - 1 := tr_len_le hl
  have hq : ∀ i, cf (addL q (moL n c)) i = if i = n then c else cf q i := fun i => by
    rw [cf_addL, cf_moL_one]
    by_cases hi : i = n
    · subst hi; rw [if_pos rfl, if_pos rfl, h.low i (by omega)]; omega
    · rw [if_neg hi, if_neg hi]; omega
  have hrx := h.rlen
  refine ⟨⟨?_, tr_tr _, tr_tr _, fun i hi => ?_, by omega, ?_, ?_, ?_⟩, by omega⟩
  · exact rst_eqp (rst_step h.rst e) (cf_tr _).symm (cf_tr _).symm
  · rw [cf_tr, hq, if_neg (by omega)]; exact h.low i (by omega)
  · refine Nat.le_trans (tr_len _) ?_
    rw [addL_len]
    have := h.qlen
    simp [moL]; omega
  · refine pl_tr fun j => ?_
    rw [e]
    have h1 : x.length - (tr (addL r (scL (-1) (tr (mulL (moL n c) y))))).length ≥ x.length - r.length + 1 := by omega
    have h2 := Nat.mul_le_mul_right (k + 1) h1
    rw [Nat.succ_mul] at h2
    have h3 := h.lim j
    split
    · have h4 := zlen_sub (cf r j) (c * cf y (j - n))
      have h5 := zlen_mul c (cf y (j - n))
      have h6 := hk (j - n)
      omega
    · rw [Int.sub_zero]; omega
  · refine pl_tr fun j => ?_
    rw [hq]
    split
    · have := Nat.mul_le_mul_right (k + 1) (show x.length - r.length ≤ x.length by omega)
      omega
    · exact h.qlim j
theorem pl_moL {k n : Nat} {c : Int} (h : zlen c ≤ k) : PL k (moL n c) := fun i => by
  rw [cf_moL_one]
  split
  · exact h
  · rw [zlen_zero]; omega
theorem PZ_moL (n : Nat) (c : Int) : List.replicate n (V.agg [.b false, .sl none []]) ++ [.agg [.b (zn c), .sl none (uL (zl c))]] = PZ (moL n c) := by
  rw [PZ_replicate, moL, ← Z_eq, PZ_snoc]
def RdS (k : Nat) (x y : List Int) (S : St) : Prop := ∃ q r, RdI k x y q r ∧ S.σ 6 = .p (.sl (some 2) (PZ y)) ∧ S.σ 7 = .p (.sl (some 2) (PZ r)) ∧ S.σ 8 = .p (.sl (some 2) (PZ q))

attribute [local simp] RunL_cons RunL_nil AOp_none AOp_some acK_v acK_call agK_tt agK_ff agK_tf agK_ft agK_tup agK_i aop aun St.ev St.heap St.put thenQ blockQ scopeQ upd_apply S0 argSlot lowV V.cells V.isAgg V.fits V.part partOk plains St.ret retSV svOf svsOf retQ retP retAll retOne uL_length uL_get? uL_get St.elems retH ownIdx ownAt
attribute [local simp] RunD_none RunD_some RunD_nil RunE_any acD_v acD_call agD_tt agD_ff agD_tf agD_ft agD_tup entsOf svref SO.opds SO.writes SO.makes callEnt pureSV pureOf RV.isOwn
attribute [local simp] abin_add abin_sub abin_mul abin_quo abin_rem abin_eql abin_neq abin_lss abin_leq abin_gtr abin_geq
attribute [local simp] uL_snoc uL_set uL_take uL_drop uL_append uL_replicate uL_nil
attribute [local simp] acK_callG acD_callG St.giv gsSV gvSV retEnts ownEnts SO.still
attribute [local simp] S0G argSlotG givSV retQG retPG retAllG retOneG HObj.width V.scalar trimQ V.byte
attribute [local simp] zv V.fits fillOk fillV Z_eq
set_option maxHeartbeats 1000000 in
theorem rdiv10 {k : Nat} {vs ws : List V} {a b : List Int} (hv : IsP k vs a) (hw : IsP k ws b) (hk : k ≤ 2 ^ 20) (hn : vs.length ≤ 2 ^ 18) (hn2 : ws.length ≤ 2 ^ 18) (hb : vs.length * (k + 1) ≤ 2 ^ 21) :
    Spec Tryz.prog f_ref10_Div [.sl (some 2) vs, .sl (some 2) ws] (· = pdivQ a b) := by
  have nm1 := own_plain (rnorm10 hv (by omega) (by omega))
  have nm2 := own_plain (rnorm10 hw (by omega) (by omega))
  have pla := pl_tr hv.pl
  have plb := pl_tr hw.pl
  have tla : (tr a).length ≤ vs.length := by have := tr_len a; have := hv.len; omega
  have tlb : (tr b).length ≤ ws.length := by have := tr_len b; have := hw.len; omega
  have e0 : pdivQ a b = pdivQ (tr a) (tr b) := by
    have h := pdivR_eqp (cf_tr a).symm (cf_tr b).symm
    rw [pdivQ, pdivQ, tr_tr]
    rw [pdivR, pdivR, tr_tr] at h
    split
    · rfl
    · rename_i hb0
      rw [if_neg hb0, if_neg hb0] at h
      cases h1 : pq a b <;> cases h2 : pq (tr a) (tr b) <;> rw [h1, h2] at h <;> simp at h ⊢
      exact h
  rw [e0]
  have ta := tr_tr a
  have tb := tr_tr b
  obtain ⟨x, hx⟩ : ∃ x, x = tr a := ⟨_, rfl⟩
  obtain ⟨y, hy⟩ : ∃ x, x = tr b := ⟨_, rfl⟩
  rw [← hx] at nm1 pla tla ta ⊢
  rw [← hy] at nm2 plb tlb tb ⊢
  clear hx hy e0
  have hxl := PZ_length x
  have hyl := PZ_length y
  rw [pdivQ, tb]
  refine spec_at Tryz.func80 ok_ref10_Div [] rfl (by simp) ?_
  unfold sc_ref10_Div
  by_cases hy0 : y = []
  · subst hy0
    rw [if_pos rfl]
    refine WS_seq (WS_reg [] ?_); simp [PZ, List.map_nil]
    refine WS_seq (WS_reg [] ?_); simp [PZ, List.map_nil]
    refine callK nm2 ?_; simp [PZ, List.map_nil]
    refine WS_seq (WS_seq (WS_reg [] ?_)); simp [PZ, List.map_nil]
    refine WS_cond (t := true) (by simp [PZ, List.map_nil]) (fun _ => ?_) (fun h => by cases h)
    refine WS_seq (WS_reg [] ?_); simp [PZ, List.map_nil]
    refine WS_ret ?_; simp [PZ, List.map_nil]
  rw [if_neg hy0]
  have yl := List.length_pos_iff.2 hy0
  have hyE : ((y.length : Int) == 0) = false := by simp; omega
  have hyN : ¬ y.length = 0 := by omega
  obtain ⟨Y, hY⟩ : ∃ Y, Y = PZ y := ⟨_, rfl⟩
  obtain ⟨X, hX⟩ : ∃ Y, Y = PZ x := ⟨_, rfl⟩
  rw [← hY] at nm2 hyl
  rw [← hX] at nm1 hxl
  refine WS_seq (WS_reg [] ?_); simp [hxl, hyl, hyE, hyN]
  refine WS_seq (WS_reg [] ?_); simp [hxl, hyl, hyE, hyN]
  refine callK nm2 ?_; simp [hxl, hyl, hyE, hyN]
  refine WS_seq (WS_seq (WS_reg [] ?_)); simp [hxl, hyl, hyE, hyN]
  refine WS_cond (t := false) (by simp [hxl, hyl, hyE, hyN]) (fun h => by cases h) (fun _ => ?_)
  refine WS_skip ?_; simp [hxl, hyl, hyE, hyN]
  refine WS_seq (WS_reg [] ?_); simp [hxl, hyl, hyE, hyN]
  refine callK nm1 ?_; simp [hxl, hyl, hyE, hyN]
  refine WS_seq (WS_reg [] ?_); simp [hxl, hyl, hyE, hyN]
  refine WS_seq (WS_block ?_)
  have hxk : x.length * (k + 1) ≤ 2 ^ 21 := Nat.le_trans (Nat.mul_le_mul_right _ tla) hb
  refine WS_loop (RdS k x y) (slL 7) ⟨[], x, ⟨rst_first x y |> (fun h => rst_eqp h Eqp.rfl' (cf_tr x)), ta, rfl, fun i _ => cf_nil i, Nat.le_refl _, Nat.zero_le _, fun i => by have := pla i; omega, fun i => by rw [cf_nil, zlen_zero]; omega⟩, by simp [hY], by simp [hX], by simp [PZ]⟩ ?_
  rintro S ⟨q, r, hD, s6, s7, s8⟩
  have d7 := slL_eq s7
  rw [PZ_length] at d7
  rw [← hY] at s6
  have hrl := PZ_length r
  have lx := hD.rlen
  by_cases hr0 : r = []
  · subst hr0
    rw [rst_end (by rw [tb]; exact hy0) hD.rst hD.rtr, hD.qtr]
    dsimp only
    obtain ⟨Q, hQ⟩ : ∃ Y, Y = PZ q := ⟨_, rfl⟩
    rw [← hQ] at s8 ⊢
    obtain ⟨R, hR⟩ : ∃ Y, Y = PZ [] := ⟨_, rfl⟩
    rw [← hR] at s7 hrl
    refine WS_seq (WS_seq (WS_reg [] ?_)); simp [s6, s7, s8, hrl]
    refine WS_cond (t := false) (by simp [s6, s7, s8, hrl]) (fun h => by cases h) (fun _ => ?_)
    refine WS_exit ?_; simp [s6, s7, s8, hrl]
    refine WS_seq (WS_reg [] ?_); simp [s6, s7, s8, hrl]
    refine WS_ret ?_; simp [s6, s7, s8, hrl]
  · have hrp := List.length_pos_iff.2 hr0
    have hrI : (0 : Int) < (r.length : Int) := by omega
    have w1 : IntKind.i64.wrap ((r.length : Int) - (y.length : Int)) = (r.length : Int) - (y.length : Int) := i64_int _ (by omega) (by omega)
    have w2 : IntKind.i64.wrap ((r.length : Int) - 1) = (r.length : Int) - 1 := i64_int _ (by omega) (by omega)
    have w3 : IntKind.i64.wrap ((y.length : Int) - 1) = (y.length : Int) - 1 := i64_int _ (by omega) (by omega)
    have t1 : ((r.length : Int) - 1).toNat = r.length - 1 := by omega
    have t2 : ((y.length : Int) - 1).toNat = y.length - 1 := by omega
    have b1 : 0 ≤ (r.length : Int) - 1 := by omega
    have b2 : (r.length : Int) - 1 < (r.length : Int) := by omega
    have b3 : 0 ≤ (y.length : Int) - 1 := by omega
    have b4 : (y.length : Int) - 1 < (y.length : Int) := by omega
    have b5 : r.length - 1 < r.length := by omega
    have b6 : y.length - 1 < y.length := by omega
    have hg1 := PZ_get r (r.length - 1) (by omega)
    have hg2 := PZ_get y (y.length - 1) (by rw [PZ_length]; omega)
    simp only [← hY] at hg2
    have hlim := hD.lim
    obtain ⟨L, hL⟩ : ∃ L, L = k + (x.length - r.length) * (k + 1) := ⟨_, rfl⟩
    rw [← hL] at hlim
    have hL2 : L ≤ 2 ^ 22 - k := by
      have := Nat.mul_le_mul_right (k + 1) (show x.length - r.length ≤ x.length by omega)
      omega
    have yx0 : cf y (y.length - 1) ≠ 0 := by have := tr_last y (by rw [tb]; exact hy0); rwa [tb] at this
    have ex := rexact (isZ_of (x := cf r (r.length - 1)) (k := 2 ^ 26) (by have := hlim (r.length - 1); omega)) (isZ_of (x := cf y (y.length - 1)) (k := 2 ^ 26) (by have := plb (y.length - 1); omega)) (by omega)
    rw [exactR, if_neg yx0] at ex
    have hno := rst_none (by rw [tb]; exact hy0) hD.rst (by rw [hD.rtr]; exact hr0)
    rw [hD.rtr, tb] at hno
    obtain ⟨R, hR⟩ : ∃ Y, Y = PZ r := ⟨_, rfl⟩
    simp only [← hR] at hg1
    rw [← hR] at s7 hrl
    obtain ⟨Q, hQ⟩ : ∃ Y, Y = PZ q := ⟨_, rfl⟩
    rw [← hQ] at s8
    by_cases hsh : r.length < y.length
    · have hshI : (r.length : Int) - (y.length : Int) < 0 := by omega
      have hshI2 : (r.length : Int) < (y.length : Int) := by omega
      rw [hno (.inl hsh)]
      obtain ⟨z, e, hze, _⟩ := exactR_ex (cf r (r.length - 1)) (cf y (y.length - 1))
      rw [exactR, if_neg yx0] at hze
      rw [hze] at ex
      refine WS_seq (WS_seq (WS_reg [] ?_)); simp [s6, s7, s8, hrl, hyl, hrp, hrI, w1, w2, w3, t1, t2, b1, b2, b3, b4, b5, b6, hg1, hg2, hshI, hshI2]
      refine WS_cond (t := true) (by simp [s6, s7, s8, hrl, hyl, hrp, hrI, w1, w2, w3, t1, t2, b1, b2, b3, b4, b5, b6, hg1, hg2, hshI, hshI2]) (fun _ => ?_) (fun h => by cases h)
      refine WS_skip ?_; simp [s6, s7, s8, hrl, hyl, hrp, hrI, w1, w2, w3, t1, t2, b1, b2, b3, b4, b5, b6, hg1, hg2, hshI, hshI2]
      refine WS_block (WS_seq (WS_reg [] ?_)); simp [s6, s7, s8, hrl, hyl, hrp, hrI, w1, w2, w3, t1, t2, b1, b2, b3, b4, b5, b6, hg1, hg2, hshI, hshI2]
      refine WS_seq (WS_regD [] ?_); simp [s6, s7, s8, hrl, hyl, hrp, hrI, w1, w2, w3, t1, t2, b1, b2, b3, b4, b5, b6, hg1, hg2, hshI, hshI2]
      refine ⟨by omega, by omega, ?_⟩
      refine callD ex rfl ?_; simp [s6, s7, s8, hrl, hyl, hrp, hrI, w1, w2, w3, t1, t2, b1, b2, b3, b4, b5, b6, hg1, hg2, hshI, hshI2]
      refine ⟨rfl, ?_⟩
      refine WS_seq (WS_seq (WS_reg [] ?_)); simp [s6, s7, s8, hrl, hyl, hrp, hrI, w1, w2, w3, t1, t2, b1, b2, b3, b4, b5, b6, hg1, hg2, hshI, hshI2]
      refine WS_cond (t := true) (by simp [s6, s7, s8, hrl, hyl, hrp, hrI, w1, w2, w3, t1, t2, b1, b2, b3, b4, b5, b6, hg1, hg2, hshI, hshI2]) (fun _ => ?_) (fun h => by cases h)
      refine WS_seq (WS_reg [] ?_); simp [s6, s7, s8, hrl, hyl, hrp, hrI, w1, w2, w3, t1, t2, b1, b2, b3, b4, b5, b6, hg1, hg2, hshI, hshI2]
      refine WS_ret ?_; simp [s6, s7, s8, hrl, hyl, hrp, hrI, w1, w2, w3, t1, t2, b1, b2, b3, b4, b5, b6, hg1, hg2, hshI, hshI2]
    · by_cases hm : cf r (r.length - 1) % cf y (y.length - 1) = 0
      · rw [if_pos hm] at ex
        obtain ⟨c, hc0⟩ : ∃ c, c = cf r (r.length - 1) / cf y (y.length - 1) := ⟨_, rfl⟩
        have hcl : zlen c ≤ L := by
          refine Nat.le_trans (zlen_le ?_) (hlim (r.length - 1))
          have := Int.ediv_mul_cancel (Int.dvd_of_emod_eq_zero hm)
          rw [← hc0] at this
          rw [← this, Int.natAbs_mul]
          exact Nat.le_mul_of_pos_right _ (Int.natAbs_pos.2 yx0)
        rw [← hc0] at ex
        obtain ⟨n, hn0⟩ : ∃ n, n + y.length = r.length := ⟨r.length - y.length, by omega⟩
        have hst := rdI_step hD tb hy0 hr0 hn0 plb hm hc0 (by rw [← hL]; exact hcl)
        have eI : (r.length : Int) - (y.length : Int) = (n : Int) := by omega
        have eN : r.length - y.length = n := by omega
        have pq1 : PL (2 ^ 22) q := hD.qlim.mono (by omega)
        have pm1 : PL (2 ^ 22) (moL n c) := pl_moL (by omega)
        have ml : (moL n c).length = n + 1 := by simp [moL]
        have ql := hD.qlen
        have ad := own_plain (radd10 (isP_PZ pq1) (isP_PZ pm1) (by omega) (by rw [PZ_length]; omega) (by rw [PZ_length]; omega))
        have mu := own_plain (rmul10 (isP_PZ pm1) (isP_PZ (plb.mono (show k ≤ 2 ^ 22 by omega))) (by omega) (by rw [PZ_length]; omega) (by rw [PZ_length]; omega))
        have lmu : PL (2 ^ 22) (tr (mulL (moL n c) y)) := pl_tr fun i => by
          rw [cf_moL]
          split
          · have h1 := zlen_mul c (cf y (i - n))
            have h2 := plb (i - n)
            omega
          · rw [zlen_zero]; omega
        have sb := own_plain (rsub10 (isP_PZ (hlim.mono (show L ≤ 2 ^ 22 by omega))) (isP_PZ lmu) (by omega) (by rw [PZ_length]; omega) (by rw [PZ_length]; have h1 := tr_len (mulL (moL n c) y); have h2 := mulL_len y (moL n c); omega))
        have hpart := PZ_moL n c
        obtain ⟨P, hP⟩ : ∃ Y, Y = PZ (moL n c) := ⟨_, rfl⟩
        rw [← hP, ← hQ] at ad
        rw [← hP, ← hY] at mu
        rw [← hR] at sb
        rw [← hP] at hpart
        obtain ⟨U, hU⟩ : ∃ Y, Y = PZ (tr (mulL (moL n c) y)) := ⟨_, rfl⟩
        rw [← hU] at mu sb
        obtain ⟨q', hq'⟩ : ∃ Y, Y = tr (addL q (moL n c)) := ⟨_, rfl⟩
        obtain ⟨r', hr'⟩ : ∃ Y, Y = tr (addL r (scL (-1) (tr (mulL (moL n c) y)))) := ⟨_, rfl⟩
        rw [← hq', ← hr'] at hst
        rw [← hq'] at ad
        rw [← hr'] at sb
        have hnl : n ≤ 2 ^ 18 := by omega
        have hnW := i64_nat n (by omega)
        have hnI : ¬ (n : Int) < 0 := by omega
        have hnD : decide ((n : Int) < 0) = false := by simp
        have hpl2 : (List.replicate n (V.agg [.b false, .sl none []])).length = n := by simp
        have hplP : P.length = n + 1 := by rw [hP, PZ_length, ml]
        refine WS_seq (WS_seq (WS_reg [] ?_)); simp [s6, s7, s8, hrl, hyl, hrp, hrI, w1, w2, w3, t1, t2, b1, b2, b3, b4, b5, b6, hg1, hg2, eI, eN, hpart, hplP, hnI, hnD, hnW]
        refine WS_cond (t := true) (by simp [s6, s7, s8, hrl, hyl, hrp, hrI, w1, w2, w3, t1, t2, b1, b2, b3, b4, b5, b6, hg1, hg2, eI, eN, hpart, hplP, hnI, hnD, hnW]) (fun _ => ?_) (fun h => by cases h)
        refine WS_skip ?_; simp [s6, s7, s8, hrl, hyl, hrp, hrI, w1, w2, w3, t1, t2, b1, b2, b3, b4, b5, b6, hg1, hg2, eI, eN, hpart, hplP, hnI, hnD, hnW]
        refine WS_block (WS_seq (WS_reg [] ?_)); simp [s6, s7, s8, hrl, hyl, hrp, hrI, w1, w2, w3, t1, t2, b1, b2, b3, b4, b5, b6, hg1, hg2, eI, eN, hpart, hplP, hnI, hnD, hnW]
        refine WS_seq (WS_regD [] ?_); simp [s6, s7, s8, hrl, hyl, hrp, hrI, w1, w2, w3, t1, t2, b1, b2, b3, b4, b5, b6, hg1, hg2, eI, eN, hpart, hplP, hnI, hnD, hnW]
        refine ⟨by omega, by omega, ?_⟩
        refine callD ex rfl ?_; simp [s6, s7, s8, hrl, hyl, hrp, hrI, w1, w2, w3, t1, t2, b1, b2, b3, b4, b5, b6, hg1, hg2, eI, eN, hpart, hplP, hnI, hnD, hnW]
        refine ⟨rfl, ?_⟩
        refine WS_seq (WS_seq (WS_reg [] ?_)); simp [s6, s7, s8, hrl, hyl, hrp, hrI, w1, w2, w3, t1, t2, b1, b2, b3, b4, b5, b6, hg1, hg2, eI, eN, hpart, hplP, hnI, hnD, hnW]
        refine WS_cond (t := false) (by simp [s6, s7, s8, hrl, hyl, hrp, hrI, w1, w2, w3, t1, t2, b1, b2, b3, b4, b5, b6, hg1, hg2, eI, eN, hpart, hplP, hnI, hnD, hnW]) (fun h => by cases h) (fun _ => ?_)
        refine WS_skip ?_; simp [s6, s7, s8, hrl, hyl, hrp, hrI, w1, w2, w3, t1, t2, b1, b2, b3, b4, b5, b6, hg1, hg2, eI, eN, hpart, hplP, hnI, hnD, hnW]
        refine WS_seq (WS_reg [] ?_); simp [s6, s7, s8, hrl, hyl, hrp, hrI, w1, w2, w3, t1, t2, b1, b2, b3, b4, b5, b6, hg1, hg2, eI, eN, hpart, hplP, hnI, hnD, hnW]
        refine ⟨by omega, ?_⟩
        refine WS_seq (WS_reg [55] ?_); simp [s6, s7, s8, hrl, hyl, hrp, hrI, w1, w2, w3, t1, t2, b1, b2, b3, b4, b5, b6, hg1, hg2, eI, eN, hpart, hplP, hnI, hnD, hnW]
        refine ⟨by omega, ?_⟩
        refine WS_seq (WS_reg [] ?_); simp [s6, s7, s8, hrl, hyl, hrp, hrI, w1, w2, w3, t1, t2, b1, b2, b3, b4, b5, b6, hg1, hg2, eI, eN, hpart, hplP, hnI, hnD, hnW]
        refine callK ad ?_; simp [s6, s7, s8, hrl, hyl, hrp, hrI, w1, w2, w3, t1, t2, b1, b2, b3, b4, b5, b6, hg1, hg2, eI, eN, hpart, hplP, hnI, hnD, hnW]
        refine WS_reg [] ?_; simp [s6, s7, s8, hrl, hyl, hrp, hrI, w1, w2, w3, t1, t2, b1, b2, b3, b4, b5, b6, hg1, hg2, eI, eN, hpart, hplP, hnI, hnD, hnW]
        refine callK mu ?_; simp [s6, s7, s8, hrl, hyl, hrp, hrI, w1, w2, w3, t1, t2, b1, b2, b3, b4, b5, b6, hg1, hg2, eI, eN, hpart, hplP, hnI, hnD, hnW]
        refine callK sb ?_; simp [s6, s7, s8, hrl, hyl, hrp, hrI, w1, w2, w3, t1, t2, b1, b2, b3, b4, b5, b6, hg1, hg2, eI, eN, hpart, hplP, hnI, hnD, hnW]
        refine ⟨⟨q', r', hst.1, by simp [s6, hY], by simp, by simp⟩, ?_⟩
        rw [d7, slL_eq (i := 7) (sz := some 2) (xs := PZ r') (by simp), PZ_length]
        exact hst.2
      · rw [if_neg hm] at ex
        rw [hno (.inr hm)]
        have hshI : ¬ (r.length : Int) - (y.length : Int) < 0 := by omega
        have hshI2 : ¬ (r.length : Int) < (y.length : Int) := by omega
        refine WS_seq (WS_seq (WS_reg [] ?_)); simp [s6, s7, s8, hrl, hyl, hrp, hrI, w1, w2, w3, t1, t2, b1, b2, b3, b4, b5, b6, hg1, hg2, hshI, hshI2]
        refine WS_cond (t := true) (by simp [s6, s7, s8, hrl, hyl, hrp, hrI, w1, w2, w3, t1, t2, b1, b2, b3, b4, b5, b6, hg1, hg2, hshI, hshI2]) (fun _ => ?_) (fun h => by cases h)
        refine WS_skip ?_; simp [s6, s7, s8, hrl, hyl, hrp, hrI, w1, w2, w3, t1, t2, b1, b2, b3, b4, b5, b6, hg1, hg2, hshI, hshI2]
        refine WS_block (WS_seq (WS_reg [] ?_)); simp [s6, s7, s8, hrl, hyl, hrp, hrI, w1, w2, w3, t1, t2, b1, b2, b3, b4, b5, b6, hg1, hg2, hshI, hshI2]
        refine WS_seq (WS_regD [] ?_); simp [s6, s7, s8, hrl, hyl, hrp, hrI, w1, w2, w3, t1, t2, b1, b2, b3, b4, b5, b6, hg1, hg2, hshI, hshI2]
        refine ⟨by omega, by omega, ?_⟩
        refine callD ex rfl ?_; simp [s6, s7, s8, hrl, hyl, hrp, hrI, w1, w2, w3, t1, t2, b1, b2, b3, b4, b5, b6, hg1, hg2, hshI, hshI2]
        refine ⟨rfl, ?_⟩
        refine WS_seq (WS_seq (WS_reg [] ?_)); simp [s6, s7, s8, hrl, hyl, hrp, hrI, w1, w2, w3, t1, t2, b1, b2, b3, b4, b5, b6, hg1, hg2, hshI, hshI2]
        refine WS_cond (t := true) (by simp [s6, s7, s8, hrl, hyl, hrp, hrI, w1, w2, w3, t1, t2, b1, b2, b3, b4, b5, b6, hg1, hg2, hshI, hshI2]) (fun _ => ?_) (fun h => by cases h)
        refine WS_seq (WS_reg [] ?_); simp [s6, s7, s8, hrl, hyl, hrp, hrI, w1, w2, w3, t1, t2, b1, b2, b3, b4, b5, b6, hg1, hg2, hshI, hshI2]
        refine WS_ret ?_; simp [s6, s7, s8, hrl, hyl, hrp, hrI, w1, w2, w3, t1, t2, b1, b2, b3, b4, b5, b6, hg1, hg2, hshI, hshI2]
end Go.Vw
set_option linter.unusedVariables false
set_option linter.unusedSimpArgs false
namespace Go.Vw
open Go.Proofs Go.Py

attribute [local simp] RunL_cons RunL_nil AOp_none AOp_some acK_v acK_call agK_tt agK_ff agK_tf agK_ft agK_tup agK_i aop aun St.ev St.heap St.put thenQ blockQ scopeQ upd_apply S0 argSlot lowV V.cells V.isAgg V.fits V.part partOk plains St.ret retSV svOf svsOf retQ retP retAll retOne uL_length uL_get? uL_get St.elems retH ownIdx ownAt
attribute [local simp] RunD_none RunD_some RunD_nil RunE_any acD_v acD_call agD_tt agD_ff agD_tf agD_ft agD_tup entsOf svref SO.opds SO.writes SO.makes callEnt pureSV pureOf RV.isOwn
attribute [local simp] abin_add abin_sub abin_mul abin_quo abin_rem abin_eql abin_neq abin_lss abin_leq abin_gtr abin_geq
attribute [local simp] uL_snoc uL_set uL_take uL_drop uL_append uL_replicate uL_nil
attribute [local simp] acK_callG acD_callG St.giv gsSV gvSV retEnts ownEnts SO.still
attribute [local simp] S0G argSlotG givSV retQG retPG retAllG retOneG HObj.width V.scalar trimQ V.byte
attribute [local simp] zv V.fits fillOk fillV Z_eq
end Go.Vw
set_option linter.unusedVariables false
set_option linter.unusedSimpArgs false
namespace Go.Vw
open Go.Proofs Go.Py

attribute [local simp] RunL_cons RunL_nil AOp_none AOp_some acK_v acK_call agK_tt agK_ff agK_tf agK_ft agK_tup agK_i aop aun St.ev St.heap St.put thenQ blockQ scopeQ upd_apply S0 argSlot lowV V.cells V.isAgg V.fits V.part partOk plains St.ret retSV svOf svsOf retQ retP retAll retOne uL_length uL_get? uL_get St.elems retH ownIdx ownAt
attribute [local simp] RunD_none RunD_some RunD_nil RunE_any acD_v acD_call agD_tt agD_ff agD_tf agD_ft agD_tup entsOf svref SO.opds SO.writes SO.makes callEnt pureSV pureOf RV.isOwn
attribute [local simp] abin_add abin_sub abin_mul abin_quo abin_rem abin_eql abin_neq abin_lss abin_leq abin_gtr abin_geq
attribute [local simp] uL_snoc uL_set uL_take uL_drop uL_append uL_replicate uL_nil
attribute [local simp] acK_callG acD_callG St.giv gsSV gvSV retEnts ownEnts SO.still
attribute [local simp] S0G argSlotG givSV retQG retPG retAllG retOneG HObj.width V.scalar trimQ V.byte
attribute [local simp] zv V.fits fillOk fillV Z_eq
end Go.Vw
set_option linter.unusedVariables false
namespace Go.Vw
open Go.Proofs Go.Py

end Go.Vw
set_option linter.unusedVariables false
set_option linter.unusedSimpArgs false
namespace Go.Vw
open Go.Proofs Go.Py

attribute [local simp] RunL_cons RunL_nil AOp_none AOp_some acK_v acK_call agK_tt agK_ff agK_tf agK_ft agK_tup agK_i aop aun St.ev St.heap St.put thenQ blockQ scopeQ upd_apply S0 argSlot lowV V.cells V.isAgg V.fits V.part partOk plains St.ret retSV svOf svsOf retQ retP retAll retOne uL_length uL_get? uL_get St.elems retH ownIdx ownAt
attribute [local simp] RunD_none RunD_some RunD_nil RunE_any acD_v acD_call agD_tt agD_ff agD_tf agD_ft agD_tup entsOf svref SO.opds SO.writes SO.makes callEnt pureSV pureOf RV.isOwn
attribute [local simp] abin_add abin_sub abin_mul abin_quo abin_rem abin_eql abin_neq abin_lss abin_leq abin_gtr abin_geq
attribute [local simp] uL_snoc uL_set uL_take uL_drop uL_append uL_replicate uL_nil
attribute [local simp] acK_callG acD_callG St.giv gsSV gvSV retEnts ownEnts SO.still
attribute [local simp] S0G argSlotG givSV retQG retPG retAllG retOneG HObj.width V.scalar trimQ V.byte
attribute [local simp] zv V.fits fillOk fillV Z_eq
end Go.Vw
set_option linter.unusedVariables false
set_option linter.unusedSimpArgs false
namespace Go.Vw
open Go.Proofs Go.Py

attribute [local simp] RunL_cons RunL_nil AOp_none AOp_some acK_v acK_call agK_tt agK_ff agK_tf agK_ft agK_tup agK_i aop aun St.ev St.heap St.put thenQ blockQ scopeQ upd_apply S0 argSlot lowV V.cells V.isAgg V.fits V.part partOk plains St.ret retSV svOf svsOf retQ retP retAll retOne uL_length uL_get? uL_get St.elems retH ownIdx ownAt
attribute [local simp] RunD_none RunD_some RunD_nil RunE_any acD_v acD_call agD_tt agD_ff agD_tf agD_ft agD_tup entsOf svref SO.opds SO.writes SO.makes callEnt pureSV pureOf RV.isOwn
attribute [local simp] abin_add abin_sub abin_mul abin_quo abin_rem abin_eql abin_neq abin_lss abin_leq abin_gtr abin_geq
attribute [local simp] uL_snoc uL_set uL_take uL_drop uL_append uL_replicate uL_nil
attribute [local simp] acK_callG acD_callG St.giv gsSV gvSV retEnts ownEnts SO.still
attribute [local simp] S0G argSlotG givSV retQG retPG retAllG retOneG HObj.width V.scalar trimQ V.byte
attribute [local simp] zv V.fits fillOk fillV Z_eq
end Go.Vw
set_option linter.unusedVariables false
set_option linter.unusedSimpArgs false
namespace Go.Vw
open Go.Proofs Go.Py

theorem cf_const (q : List Int) (m : Int) (i : Nat) : cf (mulL q [m]) i = cf q i * m := by
  rw [mulL_comm q [m] i, ← scL_eqp_mul m q i, cf_scL, Int.mul_comm]
theorem tr_single {m : Int} (h : m ≠ 0) : tr [m] = [m] := by simp [tr, h]
attribute [local simp] RunL_cons RunL_nil AOp_none AOp_some acK_v acK_call agK_tt agK_ff agK_tf agK_ft agK_tup agK_i aop aun St.ev St.heap St.put thenQ blockQ scopeQ upd_apply S0 argSlot lowV V.cells V.isAgg V.fits V.part partOk plains St.ret retSV svOf svsOf retQ retP retAll retOne uL_length uL_get? uL_get St.elems retH ownIdx ownAt
attribute [local simp] RunD_none RunD_some RunD_nil RunE_any acD_v acD_call agD_tt agD_ff agD_tf agD_ft agD_tup entsOf svref SO.opds SO.writes SO.makes callEnt pureSV pureOf RV.isOwn
attribute [local simp] abin_add abin_sub abin_mul abin_quo abin_rem abin_eql abin_neq abin_lss abin_leq abin_gtr abin_geq
attribute [local simp] uL_snoc uL_set uL_take uL_drop uL_append uL_replicate uL_nil
attribute [local simp] acK_callG acD_callG St.giv gsSV gvSV retEnts ownEnts SO.still
attribute [local simp] S0G argSlotG givSV retQG retPG retAllG retOneG HObj.width V.scalar trimQ V.byte
attribute [local simp] zv V.fits fillOk fillV Z_eq
end Go.Vw
set_option linter.unusedVariables false
set_option linter.unusedSimpArgs false
namespace Go.Vw
open Go.Proofs Go.Py

attribute [local simp] RunL_cons RunL_nil AOp_none AOp_some acK_v acK_call agK_tt agK_ff agK_tf agK_ft agK_tup agK_i aop aun St.ev St.heap St.put thenQ blockQ scopeQ upd_apply S0 argSlot lowV V.cells V.isAgg V.fits V.part partOk plains St.ret retSV svOf svsOf retQ retP retAll retOne uL_length uL_get? uL_get St.elems retH ownIdx ownAt
attribute [local simp] RunD_none RunD_some RunD_nil RunE_any acD_v acD_call agD_tt agD_ff agD_tf agD_ft agD_tup entsOf svref SO.opds SO.writes SO.makes callEnt pureSV pureOf RV.isOwn
attribute [local simp] abin_add abin_sub abin_mul abin_quo abin_rem abin_eql abin_neq abin_lss abin_leq abin_gtr abin_geq
attribute [local simp] uL_snoc uL_set uL_take uL_drop uL_append uL_replicate uL_nil
attribute [local simp] acK_callG acD_callG St.giv gsSV gvSV retEnts ownEnts SO.still
attribute [local simp] S0G argSlotG givSV retQG retPG retAllG retOneG HObj.width V.scalar trimQ V.byte
attribute [local simp] zv V.fits fillOk fillV Z_eq
end Go.Vw
set_option linter.unusedVariables false
set_option linter.unusedSimpArgs false
namespace Go.Vw
open Go.Proofs Go.Py

attribute [local simp] RunL_cons RunL_nil AOp_none AOp_some acK_v acK_call agK_tt agK_ff agK_tf agK_ft agK_tup agK_i aop aun St.ev St.heap St.put thenQ blockQ scopeQ upd_apply S0 argSlot lowV V.cells V.isAgg V.fits V.part partOk plains St.ret retSV svOf svsOf retQ retP retAll retOne uL_length uL_get? uL_get St.elems retH ownIdx ownAt
attribute [local simp] RunD_none RunD_some RunD_nil RunE_any acD_v acD_call agD_tt agD_ff agD_tf agD_ft agD_tup entsOf svref SO.opds SO.writes SO.makes callEnt pureSV pureOf RV.isOwn
attribute [local simp] abin_add abin_sub abin_mul abin_quo abin_rem abin_eql abin_neq abin_lss abin_leq abin_gtr abin_geq
attribute [local simp] uL_snoc uL_set uL_take uL_drop uL_append uL_replicate uL_nil
attribute [local simp] acK_callG acD_callG St.giv gsSV gvSV retEnts ownEnts SO.still
attribute [local simp] S0G argSlotG givSV retQG retPG retAllG retOneG HObj.width V.scalar trimQ V.byte
attribute [local simp] zv V.fits fillOk fillV Z_eq
end Go.Vw
set_option linter.unusedVariables false
set_option linter.unusedSimpArgs false
namespace Go.Vw
open Go.Proofs Go.Py

attribute [local simp] RunL_cons RunL_nil AOp_none AOp_some acK_v acK_call agK_tt agK_ff agK_tf agK_ft agK_tup agK_i aop aun St.ev St.heap St.put thenQ blockQ scopeQ upd_apply S0 argSlot lowV V.cells V.isAgg V.fits V.part partOk plains St.ret retSV svOf svsOf retQ retP retAll retOne uL_length uL_get? uL_get St.elems retH ownIdx ownAt
attribute [local simp] RunD_none RunD_some RunD_nil RunE_any acD_v acD_call agD_tt agD_ff agD_tf agD_ft agD_tup entsOf svref SO.opds SO.writes SO.makes callEnt pureSV pureOf RV.isOwn
attribute [local simp] abin_add abin_sub abin_mul abin_quo abin_rem abin_eql abin_neq abin_lss abin_leq abin_gtr abin_geq
attribute [local simp] uL_snoc uL_set uL_take uL_drop uL_append uL_replicate uL_nil
attribute [local simp] acK_callG acD_callG St.giv gsSV gvSV retEnts ownEnts SO.still
attribute [local simp] S0G argSlotG givSV retQG retPG retAllG retOneG HObj.width V.scalar trimQ V.byte
attribute [local simp] zv V.fits fillOk fillV Z_eq
end Go.Vw
set_option linter.unusedVariables false
set_option linter.unusedSimpArgs false
namespace Go.Vw
open Go.Proofs Go.Py

attribute [local simp] RunL_cons RunL_nil AOp_none AOp_some acK_v acK_call agK_tt agK_ff agK_tf agK_ft agK_tup agK_i aop aun St.ev St.heap St.put thenQ blockQ scopeQ upd_apply S0 argSlot lowV V.cells V.isAgg V.fits V.part partOk plains St.ret retSV svOf svsOf retQ retP retAll retOne uL_length uL_get? uL_get St.elems retH ownIdx ownAt
attribute [local simp] RunD_none RunD_some RunD_nil RunE_any acD_v acD_call agD_tt agD_ff agD_tf agD_ft agD_tup entsOf svref SO.opds SO.writes SO.makes callEnt pureSV pureOf RV.isOwn
attribute [local simp] abin_add abin_sub abin_mul abin_quo abin_rem abin_eql abin_neq abin_lss abin_leq abin_gtr abin_geq
attribute [local simp] uL_snoc uL_set uL_take uL_drop uL_append uL_replicate uL_nil
attribute [local simp] acK_callG acD_callG St.giv gsSV gvSV retEnts ownEnts SO.still
attribute [local simp] S0G argSlotG givSV retQG retPG retAllG retOneG HObj.width V.scalar trimQ V.byte
attribute [local simp] zv V.fits fillOk fillV Z_eq
end Go.Vw
set_option linter.unusedVariables false
set_option linter.unusedSimpArgs false
namespace Go.Vw
open Go.Proofs Go.Py

attribute [local simp] RunL_cons RunL_nil AOp_none AOp_some acK_v acK_call agK_tt agK_ff agK_tf agK_ft agK_tup agK_i aop aun St.ev St.heap St.put thenQ blockQ scopeQ upd_apply S0 argSlot lowV V.cells V.isAgg V.fits V.part partOk plains St.ret retSV svOf svsOf retQ retP retAll retOne uL_length uL_get? uL_get St.elems retH ownIdx ownAt
attribute [local simp] RunD_none RunD_some RunD_nil RunE_any acD_v acD_call agD_tt agD_ff agD_tf agD_ft agD_tup entsOf svref SO.opds SO.writes SO.makes callEnt pureSV pureOf RV.isOwn
attribute [local simp] abin_add abin_sub abin_mul abin_quo abin_rem abin_eql abin_neq abin_lss abin_leq abin_gtr abin_geq
attribute [local simp] uL_snoc uL_set uL_take uL_drop uL_append uL_replicate uL_nil
attribute [local simp] acK_callG acD_callG St.giv gsSV gvSV retEnts ownEnts SO.still
attribute [local simp] S0G argSlotG givSV retQG retPG retAllG retOneG HObj.width V.scalar trimQ V.byte
attribute [local simp] zv V.fits fillOk fillV Z_eq
end Go.Vw
set_option linter.unusedVariables false
set_option linter.unusedSimpArgs false
namespace Go.Vw
open Go.Proofs Go.Py

theorem psign_lt {x y : Int} : (x - y).sign < 0 ↔ x < y := by rw [Int.sign_neg_iff]; omega
theorem psign_eq {x y : Int} : (x - y).sign = 0 ↔ x = y := by rw [Int.sign_eq_zero_iff_zero]; omega
def LsS (a b c : Nat) (x y : List Int) (S : St) : Prop := ∃ k : Nat, k ≤ x.length ∧ lessN x y x.length = lessN x y k ∧ S.σ a = .p (.sl (some 2) (PZ x)) ∧ S.σ b = .p (.sl (some 2) (PZ y)) ∧ S.σ c = .p (.i .i64 ((k : Int) - 1))

attribute [local simp] RunL_cons RunL_nil AOp_none AOp_some acK_v acK_call agK_tt agK_ff agK_tf agK_ft agK_tup agK_i aop aun St.ev St.heap St.put thenQ blockQ scopeQ upd_apply S0 argSlot lowV V.cells V.isAgg V.fits V.part partOk plains St.ret retSV svOf svsOf retQ retP retAll retOne uL_length uL_get? uL_get St.elems retH ownIdx ownAt
attribute [local simp] RunD_none RunD_some RunD_nil RunE_any acD_v acD_call agD_tt agD_ff agD_tf agD_ft agD_tup entsOf svref SO.opds SO.writes SO.makes callEnt pureSV pureOf RV.isOwn
attribute [local simp] abin_add abin_sub abin_mul abin_quo abin_rem abin_eql abin_neq abin_lss abin_leq abin_gtr abin_geq
attribute [local simp] uL_snoc uL_set uL_take uL_drop uL_append uL_replicate uL_nil
attribute [local simp] acK_callG acD_callG St.giv gsSV gvSV retEnts ownEnts SO.still
attribute [local simp] S0G argSlotG givSV retQG retPG retAllG retOneG HObj.width V.scalar trimQ V.byte
attribute [local simp] zv V.fits fillOk fillV Z_eq
theorem pless {k : Nat} {vs ws : List V} {a b : List Int} (hv : IsP k vs a) (hw : IsP k ws b) (hk : k ≤ 2 ^ 30) (hn : vs.length ≤ 2 ^ 40) (hn2 : ws.length ≤ 2 ^ 40) : Spec Tryz.prog f_zpoly_Less [.sl (some 2) vs, .sl (some 2) ws] (· = [.pure (.b (lessP a b))]) := by
  have nm1 := own_plain (pnorm hv (by omega) hn)
  have nm2 := own_plain (pnorm hw (by omega) hn2)
  have pla := pl_tr hv.pl
  have plb := pl_tr hw.pl
  have tla : (tr a).length ≤ vs.length := by have := tr_len a; have := hv.len; omega
  have tlb : (tr b).length ≤ ws.length := by have := tr_len b; have := hw.len; omega
  rw [lessP]
  obtain ⟨x, hx⟩ : ∃ x, x = tr a := ⟨_, rfl⟩
  obtain ⟨y, hy⟩ : ∃ x, x = tr b := ⟨_, rfl⟩
  rw [← hx] at nm1 pla tla ⊢
  rw [← hy] at nm2 plb tlb ⊢
  have hxl := PZ_length x
  have hyl := PZ_length y
  obtain ⟨X, hX⟩ : ∃ X, X = PZ x := ⟨_, rfl⟩
  obtain ⟨Y, hY⟩ : ∃ X, X = PZ y := ⟨_, rfl⟩
  rw [← hX] at nm1 hxl
  rw [← hY] at nm2 hyl
  refine spec_at Tryz.func20 ok_zpoly_Less [] rfl (by simp) ?_
  unfold sc_zpoly_Less
  by_cases he : x.length = y.length
  · rw [if_pos he]
    have w1 : IntKind.i64.wrap ((y.length : Int) - 1) = (y.length : Int) - 1 := i64_int _ (by omega) (by omega)
    rw [he] at hxl
    refine WS_seq (WS_reg [] ?_); simp [hxl, hyl, w1]
    refine WS_seq (WS_reg [] ?_); simp [hxl, hyl, w1]
    refine callK nm1 ?_; simp [hxl, hyl, w1]
    refine callK nm2 ?_; simp [hxl, hyl, w1]
    refine WS_seq (WS_seq (WS_reg [] ?_)); simp [hxl, hyl, w1]
    refine WS_cond (t := false) (by simp [hxl, hyl, w1]) (fun h => by cases h) (fun _ => ?_)
    refine WS_skip ?_; simp [hxl, hyl, w1]
    refine WS_seq (WS_seq (WS_reg [] ?_)); simp [hxl, hyl, w1]
    refine WS_block ?_
    refine WS_loop (LsS 0 1 5 x y) (dnM 5) ⟨x.length, by omega, rfl, by simp [hX], by simp [hY], by simp [he]⟩ ?_
    rintro S ⟨k, hk, hl, s0, s1, s5⟩
    have d5 := dnM_eq s5
    rw [← hX] at s0
    rw [← hY] at s1
    rw [hl]
    cases k with
    | zero =>
      rw [lessN]
      refine WS_seq (WS_seq (WS_reg [] ?_)); simp [s0, s1, s5]
      refine WS_cond (t := false) (by simp [s0, s1, s5]) (fun h => by cases h) (fun _ => ?_)
      refine WS_exit ?_; simp [s0, s1, s5]
      refine WS_seq (WS_reg [] ?_); simp [s0, s1, s5]
      refine WS_ret ?_; simp [s0, s1, s5]
    | succ j =>
      have e1 : ((j + 1 : Nat) : Int) - 1 = (j : Int) := by omega
      rw [e1] at s5
      have hg1 := PZ_get x j (by rw [PZ_length]; omega)
      have hg2 := PZ_get y j (by rw [PZ_length]; omega)
      simp only [← hX] at hg1
      simp only [← hY] at hg2
      have hj : j < y.length := by omega
      have hjI : (j : Int) < (y.length : Int) := by omega
      have cm := zcmp (isZ_of (pla j)) (isZ_of (plb j)) (by omega)
      have w2 : IntKind.i64.wrap ((j : Int) - 1) = (j : Int) - 1 := i64_int _ (by omega) (by omega)
      rw [lessN] at hl ⊢
      by_cases hc : cf x j = cf y j
      · rw [if_pos hc] at hl
        rw [hc, Int.sub_self, Int.sign_zero] at cm
        rw [hc] at hg1
        rw [if_pos hc, ← hl]
        refine WS_seq (WS_seq (WS_reg [] ?_)); simp [s0, s1, s5, hxl, hyl, hj, hjI, hg1, hg2, w2]
        refine WS_cond (t := true) (by simp [s0, s1, s5, hxl, hyl, hj, hjI, hg1, hg2, w2]) (fun _ => ?_) (fun h => by cases h)
        refine WS_skip ?_; simp [s0, s1, s5, hxl, hyl, hj, hjI, hg1, hg2, w2]
        refine WS_seq (WS_block (WS_seq (WS_regD [] ?_))); simp [s0, s1, s5, hxl, hyl, hj, hjI, hg1, hg2, w2]
        refine callD cm rfl ?_; simp [s0, s1, s5, hxl, hyl, hj, hjI, hg1, hg2, w2]
        refine ⟨rfl, ?_⟩
        refine WS_seq (WS_reg [] ?_); simp [s0, s1, s5, hxl, hyl, hj, hjI, hg1, hg2, w2]
        refine WS_cond (t := false) (by simp [s0, s1, s5, hxl, hyl, hj, hjI, hg1, hg2, w2]) (fun h => by cases h) (fun _ => ?_)
        refine WS_skip ?_; simp [s0, s1, s5, hxl, hyl, hj, hjI, hg1, hg2, w2]
        refine WS_reg [] ?_; simp [s0, s1, s5, hxl, hyl, hj, hjI, hg1, hg2, w2]
        refine ⟨⟨j, by omega, hl, by simp [s0, hX], by simp [s1, hY], by simp⟩, ?_⟩
        rw [d5, dnM_eq (i := 5) (k := j) (by simp)]
        omega
      · rw [if_neg hc]
        have h1 : ¬ (cf x j - cf y j).sign = 0 := fun h => hc (psign_eq.1 h)
        have h2 : decide ((cf x j - cf y j).sign < 0) = decide (cf x j < cf y j) := by simp only [psign_lt]
        rw [← h2]
        obtain ⟨s, hs⟩ : ∃ s, s = (cf x j - cf y j).sign := ⟨_, rfl⟩
        rw [← hs] at cm h1 ⊢
        refine WS_seq (WS_seq (WS_reg [] ?_)); simp [s0, s1, s5, hxl, hyl, hj, hjI, hg1, hg2, h1]
        refine WS_cond (t := true) (by simp [s0, s1, s5, hxl, hyl, hj, hjI, hg1, hg2, h1]) (fun _ => ?_) (fun h => by cases h)
        refine WS_skip ?_; simp [s0, s1, s5, hxl, hyl, hj, hjI, hg1, hg2, h1]
        refine WS_seq (WS_block (WS_seq (WS_regD [] ?_))); simp [s0, s1, s5, hxl, hyl, hj, hjI, hg1, hg2, h1]
        refine callD cm rfl ?_; simp [s0, s1, s5, hxl, hyl, hj, hjI, hg1, hg2, h1]
        refine ⟨rfl, ?_⟩
        refine WS_seq (WS_reg [] ?_); simp [s0, s1, s5, hxl, hyl, hj, hjI, hg1, hg2, h1]
        refine WS_cond (t := true) (by simp [s0, s1, s5, hxl, hyl, hj, hjI, hg1, hg2, h1]) (fun _ => ?_) (fun h => by cases h)
        refine WS_seq (WS_reg [] ?_); simp [s0, s1, s5, hxl, hyl, hj, hjI, hg1, hg2, h1]
        refine WS_ret ?_; simp [s0, s1, s5, hxl, hyl, hj, hjI, hg1, hg2, h1]
  · rw [if_neg he]
    have heI : ¬ (x.length : Int) = (y.length : Int) := by omega
    have hd : decide ((x.length : Int) < (y.length : Int)) = decide (x.length < y.length) := by simp
    refine WS_seq (WS_reg [] ?_); simp [hxl, hyl, he, heI]
    refine WS_seq (WS_reg [] ?_); simp [hxl, hyl, he, heI]
    refine callK nm1 ?_; simp [hxl, hyl, he, heI]
    refine callK nm2 ?_; simp [hxl, hyl, he, heI]
    refine WS_seq (WS_seq (WS_reg [] ?_)); simp [hxl, hyl, he, heI]
    refine WS_cond (t := true) (by simp [hxl, hyl, he, heI]) (fun _ => ?_) (fun h => by cases h)
    refine WS_seq (WS_reg [] ?_); simp [hxl, hyl, he, heI]
    refine WS_ret ?_; simp [hxl, hyl, he, heI]
theorem rless {k : Nat} {vs ws : List V} {a b : List Int} (hv : IsP k vs a) (hw : IsP k ws b) (hk : k ≤ 2 ^ 30) (hn : vs.length ≤ 2 ^ 40) (hn2 : ws.length ≤ 2 ^ 40) : Spec Tryz.prog f_ref10_Less [.sl (some 2) vs, .sl (some 2) ws] (· = [.pure (.b (lessP a b))]) := by
  have nm1 := own_plain (rnorm10 hv (by omega) hn)
  have nm2 := own_plain (rnorm10 hw (by omega) hn2)
  have pla := pl_tr hv.pl
  have plb := pl_tr hw.pl
  have tla : (tr a).length ≤ vs.length := by have := tr_len a; have := hv.len; omega
  have tlb : (tr b).length ≤ ws.length := by have := tr_len b; have := hw.len; omega
  rw [lessP]
  obtain ⟨x, hx⟩ : ∃ x, x = tr a := ⟨_, rfl⟩
  obtain ⟨y, hy⟩ : ∃ x, x = tr b := ⟨_, rfl⟩
  rw [← hx] at nm1 pla tla ⊢
  rw [← hy] at nm2 plb tlb ⊢
  have hxl := PZ_length x
  have hyl := PZ_length y
  obtain ⟨X, hX⟩ : ∃ X, X = PZ x := ⟨_, rfl⟩
  obtain ⟨Y, hY⟩ : ∃ X, X = PZ y := ⟨_, rfl⟩
  rw [← hX] at nm1 hxl
  rw [← hY] at nm2 hyl
  refine spec_at Tryz.func21 ok_ref10_Less [] rfl (by simp) ?_
  unfold sc_ref10_Less
  by_cases he : x.length = y.length
  · rw [if_pos he]
    have w1 : IntKind.i64.wrap ((y.length : Int) - 1) = (y.length : Int) - 1 := i64_int _ (by omega) (by omega)
    rw [he] at hxl
    refine WS_seq (WS_reg [] ?_); simp [hxl, hyl, w1]
    refine WS_seq (WS_reg [] ?_); simp [hxl, hyl, w1]
    refine callK nm1 ?_; simp [hxl, hyl, w1]
    refine WS_seq (WS_reg [] ?_); simp [hxl, hyl, w1]
    refine callK nm2 ?_; simp [hxl, hyl, w1]
    refine WS_seq (WS_seq (WS_reg [] ?_)); simp [hxl, hyl, w1]
    refine WS_cond (t := false) (by simp [hxl, hyl, w1]) (fun h => by cases h) (fun _ => ?_)
    refine WS_skip ?_; simp [hxl, hyl, w1]
    refine WS_seq (WS_seq (WS_reg [] ?_)); simp [hxl, hyl, w1]
    refine WS_block ?_
    refine WS_loop (LsS 5 6 7 x y) (dnM 7) ⟨x.length, by omega, rfl, by simp [hX], by simp [hY], by simp [he]⟩ ?_
    rintro S ⟨k, hk, hl, s0, s1, s5⟩
    have d5 := dnM_eq s5
    rw [← hX] at s0
    rw [← hY] at s1
    rw [hl]
    cases k with
    | zero =>
      rw [lessN]
      refine WS_seq (WS_seq (WS_reg [] ?_)); simp [s0, s1, s5]
      refine WS_cond (t := false) (by simp [s0, s1, s5]) (fun h => by cases h) (fun _ => ?_)
      refine WS_exit ?_; simp [s0, s1, s5]
      refine WS_seq (WS_reg [] ?_); simp [s0, s1, s5]
      refine WS_ret ?_; simp [s0, s1, s5]
    | succ j =>
      have e1 : ((j + 1 : Nat) : Int) - 1 = (j : Int) := by omega
      rw [e1] at s5
      have hg1 := PZ_get x j (by rw [PZ_length]; omega)
      have hg2 := PZ_get y j (by rw [PZ_length]; omega)
      simp only [← hX] at hg1
      simp only [← hY] at hg2
      have hj : j < y.length := by omega
      have hjI : (j : Int) < (y.length : Int) := by omega
      have cm := rcmp (isZ_of (pla j)) (isZ_of (plb j)) (by omega)
      have w2 : IntKind.i64.wrap ((j : Int) - 1) = (j : Int) - 1 := i64_int _ (by omega) (by omega)
      rw [lessN] at hl ⊢
      by_cases hc : cf x j = cf y j
      · rw [if_pos hc] at hl
        rw [hc, Int.sub_self, Int.sign_zero] at cm
        rw [hc] at hg1
        rw [if_pos hc, ← hl]
        refine WS_seq (WS_seq (WS_reg [] ?_)); simp [s0, s1, s5, hxl, hyl, hj, hjI, hg1, hg2, w2]
        refine WS_cond (t := true) (by simp [s0, s1, s5, hxl, hyl, hj, hjI, hg1, hg2, w2]) (fun _ => ?_) (fun h => by cases h)
        refine WS_skip ?_; simp [s0, s1, s5, hxl, hyl, hj, hjI, hg1, hg2, w2]
        refine WS_seq (WS_block (WS_seq (WS_regD [] ?_))); simp [s0, s1, s5, hxl, hyl, hj, hjI, hg1, hg2, w2]
        refine callD cm rfl ?_; simp [s0, s1, s5, hxl, hyl, hj, hjI, hg1, hg2, w2]
        refine ⟨rfl, ?_⟩
        refine WS_seq (WS_reg [] ?_); simp [s0, s1, s5, hxl, hyl, hj, hjI, hg1, hg2, w2]
        refine WS_cond (t := false) (by simp [s0, s1, s5, hxl, hyl, hj, hjI, hg1, hg2, w2]) (fun h => by cases h) (fun _ => ?_)
        refine WS_skip ?_; simp [s0, s1, s5, hxl, hyl, hj, hjI, hg1, hg2, w2]
        refine WS_reg [] ?_; simp [s0, s1, s5, hxl, hyl, hj, hjI, hg1, hg2, w2]
        refine ⟨⟨j, by omega, hl, by simp [s0, hX], by simp [s1, hY], by simp⟩, ?_⟩
        rw [d5, dnM_eq (i := 7) (k := j) (by simp)]
        omega
      · rw [if_neg hc]
        have h1 : ¬ (cf x j - cf y j).sign = 0 := fun h => hc (psign_eq.1 h)
        have h2 : decide ((cf x j - cf y j).sign < 0) = decide (cf x j < cf y j) := by simp only [psign_lt]
        rw [← h2]
        obtain ⟨s, hs⟩ : ∃ s, s = (cf x j - cf y j).sign := ⟨_, rfl⟩
        rw [← hs] at cm h1 ⊢
        refine WS_seq (WS_seq (WS_reg [] ?_)); simp [s0, s1, s5, hxl, hyl, hj, hjI, hg1, hg2, h1]
        refine WS_cond (t := true) (by simp [s0, s1, s5, hxl, hyl, hj, hjI, hg1, hg2, h1]) (fun _ => ?_) (fun h => by cases h)
        refine WS_skip ?_; simp [s0, s1, s5, hxl, hyl, hj, hjI, hg1, hg2, h1]
        refine WS_seq (WS_block (WS_seq (WS_regD [] ?_))); simp [s0, s1, s5, hxl, hyl, hj, hjI, hg1, hg2, h1]
        refine callD cm rfl ?_; simp [s0, s1, s5, hxl, hyl, hj, hjI, hg1, hg2, h1]
        refine ⟨rfl, ?_⟩
        refine WS_seq (WS_reg [] ?_); simp [s0, s1, s5, hxl, hyl, hj, hjI, hg1, hg2, h1]
        refine WS_cond (t := true) (by simp [s0, s1, s5, hxl, hyl, hj, hjI, hg1, hg2, h1]) (fun _ => ?_) (fun h => by cases h)
        refine WS_seq (WS_reg [] ?_); simp [s0, s1, s5, hxl, hyl, hj, hjI, hg1, hg2, h1]
        refine WS_ret ?_; simp [s0, s1, s5, hxl, hyl, hj, hjI, hg1, hg2, h1]
  · rw [if_neg he]
    have heI : ¬ (x.length : Int) = (y.length : Int) := by omega
    refine WS_seq (WS_reg [] ?_); simp [hxl, hyl, he, heI]
    refine WS_seq (WS_reg [] ?_); simp [hxl, hyl, he, heI]
    refine callK nm1 ?_; simp [hxl, hyl, he, heI]
    refine WS_seq (WS_reg [] ?_); simp [hxl, hyl, he, heI]
    refine callK nm2 ?_; simp [hxl, hyl, he, heI]
    refine WS_seq (WS_seq (WS_reg [] ?_)); simp [hxl, hyl, he, heI]
    refine WS_cond (t := true) (by simp [hxl, hyl, he, heI]) (fun _ => ?_) (fun h => by cases h)
    refine WS_seq (WS_reg [] ?_); simp [hxl, hyl, he, heI]
    refine WS_ret ?_; simp [hxl, hyl, he, heI]
end Go.Vw
set_option linter.unusedVariables false
set_option linter.unusedSimpArgs false
namespace Go.Vw
open Go.Proofs Go.Py

def RoJ (l : List Int) (S : St) : Prop := ∃ i g : Nat, i ≤ l.length ∧ S.σ 0 = .p (.sl none (IL l)) ∧ S.σ 4 = .p (.i .i64 (i : Int)) ∧ S.σ 3 = .own 3 g 0 i ∧ S.h 3 = ⟨g, some (.arr 25 (some 2) (PZ (l.take i)))⟩
def RdJ (vs : List V) (G : List Int) (S : St) : Prop := ∃ i g : Nat, i ≤ G.length ∧ S.σ 0 = .p (.sl (some 2) vs) ∧ S.σ 4 = .p (.i .i64 ((i + 1 : Nat) : Int)) ∧ S.σ 3 = .own 3 g 0 i ∧ S.h 3 = ⟨g, some (.arr 25 (some 2) (PZ (G.take i)))⟩
def RcS (t : List Int) (S : St) : Prop := ∃ i : Nat, i ≤ t.length ∧ S.σ 3 = .p (.sl (some 2) (PZ t)) ∧ S.σ 5 = .p (.i .i64 (i : Int)) ∧ S.σ 4 = .ptr 4 1 0 ∧
  S.h 4 = ⟨1, some (.box 25 [.b (zn (gcL (t.take i) : Int)), .sl none (uL (zl (gcL (t.take i) : Int)))])⟩ ∧ S.σ 2 = .ptr 2 1 0 ∧ S.h 2 = ⟨1, some (.box 25 [.b false, .sl none []])⟩
theorem take_snoc_cf (l : List Int) (i : Nat) (h : i < l.length) : PZ (l.take i) ++ [Z (cf l i)] = PZ (l.take (i + 1)) := by
  rw [PZ_snoc, List.take_succ_eq_append_getElem h, cf_lt h]

attribute [local simp] RunL_cons RunL_nil AOp_none AOp_some acK_v acK_call agK_tt agK_ff agK_tf agK_ft agK_tup agK_i aop aun St.ev St.heap St.put thenQ blockQ scopeQ upd_apply S0 argSlot lowV V.cells V.isAgg V.fits V.part partOk plains St.ret retSV svOf svsOf retQ retP retAll retOne uL_length uL_get? uL_get St.elems retH ownIdx ownAt
attribute [local simp] RunD_none RunD_some RunD_nil RunE_any acD_v acD_call agD_tt agD_ff agD_tf agD_ft agD_tup entsOf svref SO.opds SO.writes SO.makes callEnt pureSV pureOf RV.isOwn
attribute [local simp] abin_add abin_sub abin_mul abin_quo abin_rem abin_eql abin_neq abin_lss abin_leq abin_gtr abin_geq
attribute [local simp] uL_snoc uL_set uL_take uL_drop uL_append uL_replicate uL_nil
attribute [local simp] acK_callG acD_callG St.giv gsSV gvSV retEnts ownEnts SO.still
attribute [local simp] S0G argSlotG givSV retQG retPG retAllG retOneG HObj.width V.scalar trimQ V.byte
attribute [local simp] zv V.fits fillOk fillV Z_eq
set_option maxHeartbeats 1000000 in
theorem rof10 {l : List Int} (hl : ∀ x ∈ l, -9223372036854775808 ≤ x ∧ x ≤ 9223372036854775807) (hn : l.length ≤ 2 ^ 40) : Spec Tryz.prog f_ref10_Of [.sl none (IL l)] (· = [.own 25 (some 2) (PZ (tr l))]) := by
  have pl : PL 1 l := pl_small hl
  have nm := rnorm10 (isP_PZ pl) (by omega) (by rw [PZ_length]; exact hn)
  have hil := IL_length l
  have hig := fun i h => IL_get l i h
  obtain ⟨I, hI⟩ : ∃ I, I = IL l := ⟨_, rfl⟩
  rw [← hI] at hil ⊢
  simp only [← hI] at hig
  refine spec_at Tryz.func23 ok_ref10_Of [true] rfl (by simp) ?_
  unfold sc_ref10_Of
  refine WS_seq (WS_reg [] ?_); simp
  refine WS_seq (WS_reg [3] ?_); simp
  refine WS_seq (WS_seq (WS_reg [] ?_)); simp
  refine WS_block ?_
  refine WS_loop (RoJ l) (fun S => l.length - nM 4 S) ⟨0, 1, by omega, by simp [hI], rfl, rfl, by simp [PZ]⟩ ?_
  rintro S ⟨i, g, hi, s0, s4, s3, h3⟩
  rw [← hI] at s0
  have d4 := nM_eq s4
  by_cases hlt : i < l.length
  · have hg := hig i (by omega)
    have hb := hl _ (List.getElem_mem hlt)
    rw [← cf_lt hlt] at hb
    have of := rof (cf l i) hb.1 hb.2
    have hltI : (i : Int) < (l.length : Int) := by omega
    have wi := i64_succ i (by omega)
    have hpl : (PZ (l.take i)).length = i := by rw [PZ_length]; simp; omega
    have hsn := take_snoc_cf l i hlt
    rw [Z_eq] at hsn
    obtain ⟨O, hO⟩ : ∃ O, O = PZ (l.take i) := ⟨_, rfl⟩
    rw [← hO] at hpl hsn h3
    have hto : O.take i = O := List.take_of_length_le (by omega)
    obtain ⟨y, hy⟩ : ∃ y, y = cf l i := ⟨_, rfl⟩
    rw [← hy] at of hsn hg
    refine WS_seq (WS_seq (WS_reg [] ?_)); simp [s0, s4, s3, h3, hlt, hltI, hil, hg, wi, hpl, hto]
    refine WS_cond (t := true) (by simp [s0, s4, s3, h3, hlt, hltI, hil, hg, wi, hpl, hto]) (fun _ => ?_) (fun h => by cases h)
    refine WS_skip ?_; simp [s0, s4, s3, h3, hlt, hltI, hil, hg, wi, hpl, hto]
    refine WS_seq (WS_block (WS_reg [] ?_)); simp [s0, s4, s3, h3, hlt, hltI, hil, hg, wi, hpl, hto]
    refine callK of ?_; simp [s0, s4, s3, h3, hlt, hltI, hil, hg, wi, hpl, hto]
    refine ⟨by omega, ?_⟩
    refine WS_reg [] ?_; simp [s0, s4, s3, h3, hlt, hltI, hil, hg, wi, hpl, hto]
    refine ⟨⟨i + 1, g + 1, by omega, by simp [s0, hI], by simp, by simp, by simp [hsn]⟩, ?_⟩
    show l.length - nM 4 _ < l.length - nM 4 S
    rw [d4, nM_eq (i := 4) (n := i + 1) (by simp)]
    omega
  · obtain rfl : i = l.length := by omega
    have hltI : ¬ (l.length : Int) < (l.length : Int) := by omega
    rw [List.take_length] at h3
    have hpl := PZ_length l
    obtain ⟨O, hO⟩ : ∃ O, O = PZ l := ⟨_, rfl⟩
    rw [← hO] at hpl h3 nm
    have hto : O.take l.length = O := List.take_of_length_le (by omega)
    obtain ⟨R, hR⟩ : ∃ R, R = PZ (tr l) := ⟨_, rfl⟩
    rw [← hR] at nm ⊢
    refine WS_seq (WS_seq (WS_reg [] ?_)); simp [s0, s4, s3, h3, hltI, hil, hpl, hto]
    refine WS_cond (t := false) (by simp [s0, s4, s3, h3, hltI, hil, hpl, hto]) (fun h => by cases h) (fun _ => ?_)
    refine WS_exit ?_; simp [s0, s4, s3, h3, hltI, hil, hpl, hto]
    refine WS_frz 3 3 none ?_
    simp [frzQ, s3, h3, hpl, hto]
    refine WS_seq (WS_reg [] ?_); simp [s0, s4, s3, h3, hltI, hil, hpl, hto]
    refine callK nm ?_; simp [s0, s4, s3, h3, hltI, hil, hpl, hto]
    refine WS_ret ?_; simp [s0, s4, s3, h3, hltI, hil, hpl, hto]
set_option maxHeartbeats 1000000 in
theorem rderiv10 {k : Nat} {vs : List V} {l : List Int} (hv : IsP k vs l) (hk : k ≤ 2 ^ 20) (hn : vs.length ≤ 2 ^ 40) : Spec Tryz.prog f_ref10_Deriv [.sl (some 2) vs] (· = [.own 25 (some 2) (PZ (tr (deL l)))]) := by
  have hlen := hv.len
  obtain ⟨G, hG⟩ : ∃ G, G = (List.range (l.length - 1)).map fun i => cf l (i + 1) * ((i + 1 : Nat) : Int) := ⟨_, rfl⟩
  have hGl : G.length = l.length - 1 := by rw [hG]; simp
  have hGc : ∀ i, i < G.length → cf G i = cf l (i + 1) * ((i + 1 : Nat) : Int) := fun i hi => by rw [hG, cf_range, if_pos (by omega)]
  have hGe : Eqp G (deL l) := fun i => by
    rw [cf_deL]
    by_cases hi : i < G.length
    · rw [hGc i hi, Int.mul_comm]; congr 1
    · rw [cf_ge (by omega), cf_ge (l := l) (by omega), Int.mul_zero]
  have plG : PL (k + 1) G := fun i => by rw [hGe i]; exact pl_de hv.pl (by omega) i
  have nm := rnorm10 (isP_PZ plG) (by omega) (by rw [PZ_length]; omega)
  rw [tr_of_eqp hGe] at nm
  clear hG
  refine spec_at Tryz.func29 ok_ref10_Deriv [true] rfl (by simp) ?_
  unfold sc_ref10_Deriv
  refine WS_seq (WS_reg [] ?_); simp
  refine WS_seq (WS_reg [3] ?_); simp
  refine WS_seq (WS_seq (WS_reg [] ?_)); simp
  refine WS_block ?_
  refine WS_loop (RdJ vs G) (fun S => vs.length + 1 - nM 4 S) ⟨0, 1, by omega, rfl, rfl, rfl, by simp [PZ]⟩ ?_
  rintro S ⟨i, g, hi, s0, s4, s3, h3⟩
  have d4 := nM_eq s4
  by_cases hlt : i < G.length
  · have hiv : i + 1 < vs.length := by omega
    obtain ⟨b2, d2, hvi, hzw, hzi⟩ := hv.cell (i + 1) hiv
    have of := rof ((i + 1 : Nat) : Int) (by omega) (by omega)
    have zo : zlen ((i + 1 : Nat) : Int) ≤ 1 := zlen_small (by omega)
    have mu := rmul ((hv.get (i + 1) hiv).mono (show k ≤ 2 ^ 26 by omega)) (isZ_of (x := ((i + 1 : Nat) : Int)) (k := 2 ^ 26) (by omega)) (by omega)
    rw [hvi, ← hGc i hlt] at mu
    have hltI : ((i + 1 : Nat) : Int) < (vs.length : Int) := by omega
    have wi := i64_succ (i + 1) (by omega)
    have hpl : (PZ (G.take i)).length = i := by rw [PZ_length]; simp; omega
    have hsn := take_snoc_cf G i hlt
    rw [Z_eq] at hsn
    obtain ⟨O, hO⟩ : ∃ O, O = PZ (G.take i) := ⟨_, rfl⟩
    rw [← hO] at hpl hsn h3
    have hto : O.take i = O := List.take_of_length_le (by omega)
    obtain ⟨y, hy⟩ : ∃ y, y = cf G i := ⟨_, rfl⟩
    rw [← hy] at mu hsn
    obtain ⟨j, hj⟩ : ∃ j, j = i + 1 := ⟨_, rfl⟩
    have hil : i ≤ 2 ^ 40 := by omega
    simp only [← hj] at hvi hiv hltI wi of mu
    rw [← hj] at s4
    refine WS_seq (WS_seq (WS_reg [] ?_)); simp [s0, s4, s3, h3, hiv, hltI, hvi, wi, hpl, hto]
    refine WS_cond (t := true) (by simp [s0, s4, s3, h3, hiv, hltI, hvi, wi, hpl, hto]) (fun _ => ?_) (fun h => by cases h)
    refine WS_skip ?_; simp [s0, s4, s3, h3, hiv, hltI, hvi, wi, hpl, hto]
    refine WS_seq (WS_block (WS_regD [] ?_)); simp [s0, s4, s3, h3, hiv, hltI, hvi, wi, hpl, hto]
    refine callD of rfl ?_; simp [s0, s4, s3, h3, hiv, hltI, hvi, wi, hpl, hto]
    refine callD mu rfl ?_; simp [s0, s4, s3, h3, hiv, hltI, hvi, wi, hpl, hto]
    refine ⟨by omega, ?_⟩
    refine ⟨rfl, ?_⟩
    refine WS_reg [] ?_; simp [s0, s4, s3, h3, hiv, hltI, hvi, wi, hpl, hto]
    refine ⟨⟨i + 1, g + 1, by omega, by simp [s0], by simp [hj], by simp, by simp [hsn]⟩, ?_⟩
    show vs.length + 1 - nM 4 _ < vs.length + 1 - nM 4 S
    rw [d4, nM_eq (i := 4) (n := j + 1) (by simp)]
    omega
  · obtain rfl : i = G.length := by omega
    have hltI : ¬ ((G.length + 1 : Nat) : Int) < (vs.length : Int) := by omega
    rw [List.take_length] at h3
    have hpl := PZ_length G
    obtain ⟨O, hO⟩ : ∃ O, O = PZ G := ⟨_, rfl⟩
    rw [← hO] at hpl h3 nm
    have hto : O.take G.length = O := List.take_of_length_le (by omega)
    obtain ⟨R, hR⟩ : ∃ R, R = PZ (tr (deL l)) := ⟨_, rfl⟩
    rw [← hR] at nm ⊢
    obtain ⟨j, hj⟩ : ∃ j, j = G.length + 1 := ⟨_, rfl⟩
    rw [← hj] at s4 hltI
    refine WS_seq (WS_seq (WS_reg [] ?_)); simp [s0, s4, s3, h3, hltI, hpl, hto]
    refine WS_cond (t := false) (by simp [s0, s4, s3, h3, hltI, hpl, hto]) (fun h => by cases h) (fun _ => ?_)
    refine WS_exit ?_; simp [s0, s4, s3, h3, hltI, hpl, hto]
    refine WS_frz 3 3 none ?_
    simp [frzQ, s3, h3, hpl, hto]
    refine WS_seq (WS_reg [] ?_); simp [s0, s4, s3, h3, hltI, hpl, hto]
    refine callK nm ?_; simp [s0, s4, s3, h3, hltI, hpl, hto]
    refine WS_ret ?_; simp [s0, s4, s3, h3, hltI, hpl, hto]
end Go.Vw
set_option linter.unusedVariables false
set_option linter.unusedSimpArgs false
namespace Go.Vw
open Go.Proofs Go.Py

attribute [local simp] RunL_cons RunL_nil AOp_none AOp_some acK_v acK_call agK_tt agK_ff agK_tf agK_ft agK_tup agK_i aop aun St.ev St.heap St.put thenQ blockQ scopeQ upd_apply S0 argSlot lowV V.cells V.isAgg V.fits V.part partOk plains St.ret retSV svOf svsOf retQ retP retAll retOne uL_length uL_get? uL_get St.elems retH ownIdx ownAt
attribute [local simp] RunD_none RunD_some RunD_nil RunE_any acD_v acD_call agD_tt agD_ff agD_tf agD_ft agD_tup entsOf svref SO.opds SO.writes SO.makes callEnt pureSV pureOf RV.isOwn
attribute [local simp] abin_add abin_sub abin_mul abin_quo abin_rem abin_eql abin_neq abin_lss abin_leq abin_gtr abin_geq
attribute [local simp] uL_snoc uL_set uL_take uL_drop uL_append uL_replicate uL_nil
attribute [local simp] acK_callG acD_callG St.giv gsSV gvSV retEnts ownEnts SO.still
attribute [local simp] S0G argSlotG givSV retQG retPG retAllG retOneG HObj.width V.scalar trimQ V.byte
attribute [local simp] zv V.fits fillOk fillV Z_eq
set_option maxHeartbeats 1000000 in
theorem reval10 {k j : Nat} {vs : List V} {l : List Int} {v : V} {x : Int} (hv : IsP k vs l) (hx : IsZ j v x) (hk : k ≤ 2 ^ 20) (hj : j ≤ 2 ^ 20) (hn : vs.length ≤ 2 ^ 20) (hb : vs.length * (j + 1) ≤ 2 ^ 24) :
    Spec Tryz.prog f_ref10_Eval [.sl (some 2) vs, v] (· = [.pure (Z (evL x l))]) := by
  have o0 := rof 0 (by omega) (by omega)
  have xl := hx.zlen
  have hlen := hv.len
  have hx2 := hx
  obtain ⟨n, d, rfl, hd, hxd⟩ := hx
  have e0 : zn 0 = false := by decide
  have ed := evL_drop_all x l
  have w0 : IntKind.i64.wrap ((vs.length : Int) - 1) = (vs.length : Int) - 1 := by
    rcases Nat.eq_zero_or_pos vs.length with h | h
    · rw [h]; decide
    · rw [show (vs.length : Int) - 1 = ((vs.length - 1 : Nat) : Int) by omega]; exact i64_nat _ (by omega)
  refine spec_at Tryz.func32 ok_ref10_Eval [] rfl (by simp) ?_
  unfold sc_ref10_Eval
  refine WS_seq (WS_reg [] ?_); simp [w0]
  refine WS_seq (WS_reg [] ?_); simp [w0]
  refine callK o0 ?_; simp [w0]
  refine WS_seq (WS_seq (WS_reg [] ?_)); simp [w0]
  refine WS_block ?_
  refine WS_loop (EvS vs l x n d) (dnM 6) ⟨l.length, Nat.le_refl _, rfl, by rw [← hlen]; rfl, rfl, by rw [ed]; rfl, rfl, rfl, rfl, rfl⟩ ?_
  rintro S ⟨i, hi, s0, s6, s5, h5, s3, h3, s4, h4⟩
  have d6 := dnM_eq s6
  cases i with
  | zero =>
    rw [List.drop_zero] at h5
    refine WS_seq (WS_seq (WS_reg [] ?_)); simp [s0, s6, s5, h5, s3, h3, s4, h4]
    refine WS_cond (t := false) (by simp [s0, s6, s5, h5, s3, h3, s4, h4]) (fun h => by cases h) (fun _ => ?_)
    refine WS_exit ?_; simp [s0, s6, s5, h5, s3, h3, s4, h4]
    refine WS_seq (WS_reg [] ?_); simp [s0, s6, s5, h5, s3, h3, s4, h4]
    refine WS_ret ?_; simp [s0, s6, s5, h5, s3, h3, s4, h4]
  | succ i =>
    have hiv : i < vs.length := by omega
    obtain ⟨b, t, hvi, hz, hzi⟩ := hv.cell i hiv
    have hm : (l.length - (i + 1)) * (j + 1) ≤ vs.length * (j + 1) := Nat.mul_le_mul_right _ (by omega)
    have le := evl_len xl (pl_drop hv.pl (i + 1))
    rw [List.length_drop] at le
    have mu := rmul (isZ_of (x := evL x (l.drop (i + 1))) (k := 2 ^ 26) (by omega)) (hx2.mono (show j ≤ 2 ^ 26 by omega)) (by omega)
    have ml := zlen_mul (evL x (l.drop (i + 1))) x
    have ad := radd (isZ_of (x := evL x (l.drop (i + 1)) * x) (k := 2 ^ 27) (by omega)) ((hv.get i hiv).mono (show k ≤ 2 ^ 27 by omega)) (by omega)
    rw [hvi, ← evL_drop x l i (by omega)] at ad
    have e1 : ((i + 1 : Nat) : Int) - 1 = (i : Int) := by omega
    rw [e1] at s6
    have w1 : IntKind.i64.wrap ((i : Int) - 1) = (i : Int) - 1 := by
      rcases Nat.eq_zero_or_pos i with h | h
      · rw [h]; decide
      · rw [show (i : Int) - 1 = ((i - 1 : Nat) : Int) by omega]; exact i64_nat _ (by omega)
    obtain ⟨y, hy⟩ : ∃ y, y = evL x (l.drop (i + 1)) := ⟨_, rfl⟩
    rw [← hy] at mu ad h5
    refine WS_seq (WS_seq (WS_reg [] ?_)); simp [s0, s6, s5, h5, s3, h3, s4, h4, hiv, hvi, w1]
    refine WS_cond (t := true) (by simp [s0, s6, s5, h5, s3, h3, s4, h4, hiv, hvi, w1]) (fun _ => ?_) (fun h => by cases h)
    refine WS_skip ?_; simp [s0, s6, s5, h5, s3, h3, s4, h4, hiv, hvi, w1]
    refine WS_seq (WS_block (WS_regD [] ?_)); simp [s0, s6, s5, h5, s3, h3, s4, h4, hiv, hvi, w1]
    refine callD mu rfl ?_; simp [s0, s6, s5, h5, s3, h3, s4, h4, hiv, hvi, w1]
    refine callD ad rfl ?_; simp [s0, s6, s5, h5, s3, h3, s4, h4, hiv, hvi, w1]
    refine ⟨rfl, ?_⟩
    refine WS_reg [] ?_; simp [s0, s6, s5, h5, s3, h3, s4, h4, hiv, hvi, w1]
    have ex : ∀ T : St, T.σ 6 = .p (.i .i64 ((i : Int) - 1)) → dnM 6 T = i := fun T h => dnM_eq h
    refine ⟨⟨i, by omega, by simp [s0], by simp, by simp [s5], by simp, by simp [s3], by simp [h3], by simp [s4], by simp [h4]⟩, ?_⟩
    rw [d6, dnM_eq (i := 6) (k := i) (by simp)]
    omega
set_option maxHeartbeats 1000000 in
theorem rcontent10 {k : Nat} {vs : List V} {l : List Int} (hv : IsP k vs l) (hk : k ≤ 2 ^ 30) (hn : vs.length ≤ 2 ^ 40) : Spec Tryz.prog f_ref10_Content [.sl (some 2) vs] (· = [.pure (Z (coL l))]) := by
  have nm := own_plain (rnorm10 hv (by omega) hn)
  have o0 := rof 0 (by omega) (by omega)
  have pl := pl_tr hv.pl
  have hco : coL l = if cf (tr l) ((tr l).length - 1) < 0 then -(gcL (tr l) : Int) else (gcL (tr l) : Int) := by rw [coL, gcL_eqp (cf_tr l)]
  have htl : (tr l).length ≤ 2 ^ 40 := by have := tr_len l; have := hv.len; omega
  rw [hco]
  obtain ⟨t, ht⟩ : ∃ t, t = tr l := ⟨_, rfl⟩
  rw [← ht] at nm pl htl ⊢
  clear hco ht
  have hpl := PZ_length t
  have hget := fun i h => PZ_get t i h
  obtain ⟨O, hO⟩ : ∃ O, O = PZ t := ⟨_, rfl⟩
  have e0 : zn 0 = false := by decide
  rw [← hO] at hpl nm
  simp only [← hO] at hget
  refine spec_at Tryz.func36 ok_ref10_Content [] rfl (by simp) ?_
  unfold sc_ref10_Content
  refine WS_seq (WS_reg [] ?_); simp [hpl]
  refine WS_seq (WS_reg [] ?_); simp [hpl]
  refine callK nm ?_; simp [hpl]
  refine WS_seq (WS_reg [] ?_); simp [hpl]
  refine callK o0 ?_; simp [hpl]
  refine WS_seq (WS_seq (WS_reg [] ?_)); simp [hpl]
  refine WS_block ?_
  refine WS_loop (RcS t) (fun S => t.length - nM 5 S) ⟨0, by omega, by simp [hO], rfl, rfl, rfl, rfl, rfl⟩ ?_
  rintro S ⟨i, hi, s3, s5, s4, h4, s2, h2⟩
  rw [← hO] at s3
  have d5 := nM_eq s5
  by_cases hlt : i < t.length
  · have hOl : i < O.length := by omega
    have hg := hget i hOl
    have hltI : (i : Int) < (t.length : Int) := by omega
    have wi := i64_succ i (by omega)
    have gd := rgcd (isZ_of (gcL_len (pl_take pl i))) (isZ_of (pl i)) (by omega)
    have eg : (Int.gcd (gcL (t.take i) : Int) (cf t i) : Int) = (gcL (t.take (i + 1)) : Int) := by rw [gcL_take t i hlt]; simp [Int.gcd]
    rw [eg] at gd
    obtain ⟨a, ha⟩ : ∃ a : Int, a = (gcL (t.take i) : Int) := ⟨_, rfl⟩
    rw [← ha] at gd h4
    obtain ⟨b, hb⟩ : ∃ a : Int, a = (gcL (t.take (i + 1)) : Int) := ⟨_, rfl⟩
    rw [← hb] at gd
    refine WS_seq (WS_seq (WS_reg [] ?_)); simp [s3, s5, s4, h4, s2, h2, hlt, hltI, hpl, wi, hg]
    refine WS_cond (t := true) (by simp [s3, s5, s4, h4, s2, h2, hlt, hltI, hpl, wi, hg]) (fun _ => ?_) (fun h => by cases h)
    refine WS_skip ?_; simp [s3, s5, s4, h4, s2, h2, hlt, hltI, hpl, wi, hg]
    refine WS_seq (WS_block (WS_regD [] ?_)); simp [s3, s5, s4, h4, s2, h2, hlt, hltI, hpl, wi, hg]
    refine callD gd rfl ?_; simp [s3, s5, s4, h4, s2, h2, hlt, hltI, hpl, wi, hg]
    refine ⟨rfl, ?_⟩
    refine WS_reg [] ?_; simp [s3, s5, s4, h4, s2, h2, hlt, hltI, hpl, wi, hg]
    refine ⟨⟨i + 1, by omega, by simp [s3, hO], by simp, by simp [s4], by simp [hb], by simp [s2], by simp [h2]⟩, ?_⟩
    show t.length - nM 5 _ < t.length - nM 5 S
    rw [d5, nM_eq (i := 5) (n := i + 1) (by simp)]
    omega
  · obtain rfl : i = t.length := by omega
    have hltI : ¬ (t.length : Int) < (t.length : Int) := by omega
    rw [List.take_length] at h4
    have ng := rneg (isZ_of (gcL_len pl)) (by omega)
    obtain ⟨g, hg⟩ : ∃ a : Int, a = (gcL t : Int) := ⟨_, rfl⟩
    rw [← hg] at h4 ng ⊢
    rcases Nat.eq_zero_or_pos t.length with h0 | h0
    · have ht0 : t = [] := List.length_eq_zero_iff.1 h0
      subst ht0
      rw [if_neg (by simp)]
      have hO0 : O = [] := List.length_eq_zero_iff.1 (by rw [hpl]; rfl)
      subst hO0
      refine WS_seq (WS_seq (WS_reg [] ?_)); simp [s3, s5, s4, h4, s2, h2, hltI]
      refine WS_cond (t := false) (by simp [s3, s5, s4, h4, s2, h2, hltI]) (fun h => by cases h) (fun _ => ?_)
      refine WS_exit ?_; simp [s3, s5, s4, h4, s2, h2, hltI]
      refine WS_seq (WS_seq (WS_reg [] ?_)); simp [s3, s5, s4, h4, s2, h2, hltI]
      refine WS_cond (t := false) (by simp [s3, s5, s4, h4, s2, h2, hltI]) (fun h => by cases h) (fun _ => ?_)
      refine WS_skip ?_; simp [s3, s5, s4, h4, s2, h2, hltI]
      refine WS_seq (WS_reg [] ?_); simp [s3, s5, s4, h4, s2, h2, hltI]
      refine WS_ret ?_; simp [s3, s5, s4, h4, s2, h2, hltI]
    · have hOl : t.length - 1 < O.length := by omega
      have hgl := hget (t.length - 1) hOl
      have w1 : IntKind.i64.wrap ((t.length : Int) - 1) = (t.length : Int) - 1 := by rw [show (t.length : Int) - 1 = ((t.length - 1 : Nat) : Int) by omega]; exact i64_nat _ (by omega)
      have tn : ((t.length : Int) - 1).toNat = t.length - 1 := by omega
      have hI1 : (1 : Int) ≤ (t.length : Int) := by omega
      have hI2 : (0 : Int) < (t.length : Int) := by omega
      have hI3 : (t.length : Int) - 1 < (t.length : Int) := by omega
      have hI4 : t.length - 1 < t.length := by omega
      have hI5 : (0 : Int) ≤ (t.length : Int) - 1 := by omega
      by_cases hs : cf t (t.length - 1) < 0
      · rw [if_pos hs]
        have hz := zn_true hs
        refine WS_seq (WS_seq (WS_reg [] ?_)); simp [s3, s5, s4, h4, s2, h2, hltI, hpl, w1, tn, hI1, hI2, hI3, hI4, hI5, h0, hgl, hz]
        refine WS_cond (t := false) (by simp [s3, s5, s4, h4, s2, h2, hltI, hpl, w1, tn, hI1, hI2, hI3, hI4, hI5, h0, hgl, hz]) (fun h => by cases h) (fun _ => ?_)
        refine WS_exit ?_; simp [s3, s5, s4, h4, s2, h2, hltI, hpl, w1, tn, hI1, hI2, hI3, hI4, hI5, h0, hgl, hz]
        refine WS_seq (WS_seq (WS_reg [] ?_)); simp [s3, s5, s4, h4, s2, h2, hltI, hpl, w1, tn, hI1, hI2, hI3, hI4, hI5, h0, hgl, hz]
        refine WS_cond (t := true) (by simp [s3, s5, s4, h4, s2, h2, hltI, hpl, w1, tn, hI1, hI2, hI3, hI4, hI5, h0, hgl, hz]) (fun _ => ?_) (fun h => by cases h)
        refine WS_reg [] ?_; simp [s3, s5, s4, h4, s2, h2, hltI, hpl, w1, tn, hI1, hI2, hI3, hI4, hI5, h0, hgl, hz]
        refine callK ng ?_; simp [s3, s5, s4, h4, s2, h2, hltI, hpl, w1, tn, hI1, hI2, hI3, hI4, hI5, h0, hgl, hz]
        refine WS_seq (WS_reg [] ?_); simp [s3, s5, s4, h4, s2, h2, hltI, hpl, w1, tn, hI1, hI2, hI3, hI4, hI5, h0, hgl, hz]
        refine WS_ret ?_; simp [s3, s5, s4, h4, s2, h2, hltI, hpl, w1, tn, hI1, hI2, hI3, hI4, hI5, h0, hgl, hz]
      · rw [if_neg hs]
        have hz := zn_false (show 0 ≤ cf t (t.length - 1) by omega)
        refine WS_seq (WS_seq (WS_reg [] ?_)); simp [s3, s5, s4, h4, s2, h2, hltI, hpl, w1, tn, hI1, hI2, hI3, hI4, hI5, h0, hgl, hz]
        refine WS_cond (t := false) (by simp [s3, s5, s4, h4, s2, h2, hltI, hpl, w1, tn, hI1, hI2, hI3, hI4, hI5, h0, hgl, hz]) (fun h => by cases h) (fun _ => ?_)
        refine WS_exit ?_; simp [s3, s5, s4, h4, s2, h2, hltI, hpl, w1, tn, hI1, hI2, hI3, hI4, hI5, h0, hgl, hz]
        refine WS_seq (WS_seq (WS_reg [] ?_)); simp [s3, s5, s4, h4, s2, h2, hltI, hpl, w1, tn, hI1, hI2, hI3, hI4, hI5, h0, hgl, hz]
        refine WS_cond (t := false) (by simp [s3, s5, s4, h4, s2, h2, hltI, hpl, w1, tn, hI1, hI2, hI3, hI4, hI5, h0, hgl, hz]) (fun h => by cases h) (fun _ => ?_)
        refine WS_skip ?_; simp [s3, s5, s4, h4, s2, h2, hltI, hpl, w1, tn, hI1, hI2, hI3, hI4, hI5, h0, hgl, hz]
        refine WS_seq (WS_reg [] ?_); simp [s3, s5, s4, h4, s2, h2, hltI, hpl, w1, tn, hI1, hI2, hI3, hI4, hI5, h0, hgl, hz]
        refine WS_ret ?_; simp [s3, s5, s4, h4, s2, h2, hltI, hpl, w1, tn, hI1, hI2, hI3, hI4, hI5, h0, hgl, hz]
theorem rprim10 {k : Nat} {vs : List V} {l : List Int} (hv : IsP k vs l) (hk : k ≤ 2 ^ 20) (hn : vs.length ≤ 2 ^ 18) (hb : vs.length * (k + 1) ≤ 2 ^ 21) : Spec Tryz.prog f_ref10_Prim [.sl (some 2) vs] (· = [.pure (.sl (some 2) (PZ (ppL l)))]) := by
  have nm := own_plain (rnorm10 hv (by omega) (by omega))
  have pl := pl_tr hv.pl
  have htl : (tr l).length ≤ vs.length := by have := tr_len l; have := hv.len; omega
  have hpl := PZ_length (tr l)
  by_cases h0 : tr l = []
  · have e : ppL l = [] := by rw [ppL, h0]; rfl
    rw [e]
    rw [h0] at nm hpl
    obtain ⟨W, hW⟩ : ∃ W, W = PZ [] := ⟨_, rfl⟩
    rw [← hW] at nm hpl
    have hW2 : W = [] := by rw [hW]; rfl
    refine spec_at Tryz.func38 ok_ref10_Prim [] rfl (by simp) ?_
    unfold sc_ref10_Prim
    refine WS_seq (WS_reg [] ?_); simp [hpl, hW2]
    refine WS_seq (WS_reg [] ?_); simp [hpl, hW2]
    refine callK nm ?_; simp [hpl, hW2]
    refine WS_seq (WS_seq (WS_reg [] ?_)); simp [hpl, hW2]
    refine WS_cond (t := true) (by simp [hpl, hW2]) (fun _ => ?_) (fun h => by cases h)
    refine WS_seq (WS_reg [] ?_); simp [hpl, hW2]
    refine WS_ret ?_; simp [hpl, hW2]
    simp [PZ]
  · have co := rcontent10 (isP_PZ pl) (by omega) (by rw [hpl]; omega)
    rw [coL_tr] at co
    have c0 : coL l ≠ 0 := fun h => h0 (coL_zero.1 h)
    have hm : (PZ (tr l)).length * (k + 1) ≤ 2 ^ 21 := Nat.le_trans (Nat.mul_le_mul_right _ (by rw [hpl]; exact htl)) hb
    have dv := rdiv10 (isP_PZ pl) (isP_PZ (l := [coL l]) (k := k) (fun i => by
      cases i with
      | zero => rw [cf_zero]; exact coL_len hv.pl
      | succ i => rw [cf_succ, cf_nil, zlen_zero]; omega)) (by omega) (by rw [hpl]; omega) (by rw [PZ_length]; simp) hm
    rw [pdivQ_some (q := ppL l) (by rw [tr_single c0]; simp) (fun i => by rw [cf_const, cf_tr, ppL_mul l i, cf_scL, cf_ppL, Int.mul_ediv_cancel' (coL_dvd l i), Int.ediv_mul_cancel (coL_dvd l i)]), tr_ppL, show PZ [coL l] = [.agg [.b (zn (coL l)), .sl none (uL (zl (coL l)))]] from rfl] at dv
    obtain ⟨c, hc⟩ : ∃ c, c = coL l := ⟨_, rfl⟩
    rw [← hc] at co dv
    have lp := List.length_pos_iff.2 h0
    obtain ⟨n, hn'⟩ : ∃ n, n = (tr l).length := ⟨_, rfl⟩
    rw [← hn'] at hpl lp
    have nB : ((n : Int) == 0) = false := by simp; omega
    have nN : ¬ n = 0 := by omega
    obtain ⟨W, hW⟩ : ∃ W, W = PZ (tr l) := ⟨_, rfl⟩
    rw [← hW] at nm hpl co dv
    obtain ⟨R, hR⟩ : ∃ W, W = PZ (ppL l) := ⟨_, rfl⟩
    rw [← hR] at dv ⊢
    refine spec_at Tryz.func38 ok_ref10_Prim [] rfl (by simp) ?_
    unfold sc_ref10_Prim
    refine WS_seq (WS_reg [] ?_); simp [hpl, nB, nN]
    refine WS_seq (WS_reg [] ?_); simp [hpl, nB, nN]
    refine callK nm ?_; simp [hpl, nB, nN]
    refine WS_seq (WS_seq (WS_reg [] ?_)); simp [hpl, nB, nN]
    refine WS_cond (t := false) (by simp [hpl, nB, nN]) (fun h => by cases h) (fun _ => ?_)
    refine WS_skip ?_; simp [hpl, nB, nN]
    refine WS_seq (WS_reg [] ?_); simp [hpl, nB, nN]
    refine callK co ?_; simp [hpl, nB, nN]
    refine callK dv ?_; simp [hpl, nB, nN]
    refine WS_seq (WS_reg [] ?_); simp [hpl, nB, nN]
    refine WS_ret ?_; simp [hpl, nB, nN]
end Go.Vw
set_option linter.unusedVariables false
set_option linter.unusedSimpArgs false
namespace Go.Vw
open Go.Proofs Go.Py

def RhS (vs : List V) (l : List Int) (s : Int) (b : Bool) (d : List Nat) (S : St) : Prop := ∃ k : Nat, k ≤ l.length ∧ S.σ 0 = .p (.sl (some 2) vs) ∧ S.σ 6 = .p (.i .i64 ((k : Int) - 1)) ∧ S.σ 5 = .p (.sl (some 2) (PZ (tr (shL s (l.drop k))))) ∧ S.σ 3 = .ptr 3 1 0 ∧ S.h 3 = ⟨1, some (.box 25 [.b b, .sl none (uL d)])⟩
theorem shL_drop {s : Int} {l : List Int} {k : Nat} (h : k < l.length) : tr (addL (tr (mulL (tr (shL s (l.drop (k + 1)))) [s, 1])) [cf l k]) = tr (shL s (l.drop k)) := by
  rw [List.drop_eq_getElem_cons h, shL, cf_lt h]
  exact tr_of_eqp (eqp_addL ((cf_tr _).trans (eqp_mulL_left _ (cf_tr _))) Eqp.rfl')
def RmdJ (vs : List V) (p : Int) (R : List Int) (S : St) : Prop := ∃ i g : Nat, i ≤ R.length ∧ S.σ 0 = .p (.sl (some 2) vs) ∧ S.σ 1 = .p (.i .i64 p) ∧ S.σ 7 = .p (.i .i64 (i : Int)) ∧ S.σ 6 = .own 6 g 0 i ∧ S.h 6 = ⟨g, some (.arr 3 none (IL (R.take i)))⟩
def RmdS (R : List Int) (S : St) : Prop := ∃ m : Nat, m ≤ R.length ∧ S.σ 6 = .p (.sl none (IL R)) ∧ S.σ 10 = .p (.i .i64 (m : Int)) ∧ ∀ i, m ≤ i → cf R i = 0

attribute [local simp] RunL_cons RunL_nil AOp_none AOp_some acK_v acK_call agK_tt agK_ff agK_tf agK_ft agK_tup agK_i aop aun St.ev St.heap St.put thenQ blockQ scopeQ upd_apply S0 argSlot lowV V.cells V.isAgg V.fits V.part partOk plains St.ret retSV svOf svsOf retQ retP retAll retOne uL_length uL_get? uL_get St.elems retH ownIdx ownAt
attribute [local simp] RunD_none RunD_some RunD_nil RunE_any acD_v acD_call agD_tt agD_ff agD_tf agD_ft agD_tup entsOf svref SO.opds SO.writes SO.makes callEnt pureSV pureOf RV.isOwn
attribute [local simp] abin_add abin_sub abin_mul abin_quo abin_rem abin_eql abin_neq abin_lss abin_leq abin_gtr abin_geq
attribute [local simp] uL_snoc uL_set uL_take uL_drop uL_append uL_replicate uL_nil
attribute [local simp] acK_callG acD_callG St.giv gsSV gvSV retEnts ownEnts SO.still
attribute [local simp] S0G argSlotG givSV retQG retPG retAllG retOneG HObj.width V.scalar trimQ V.byte
attribute [local simp] zv V.fits fillOk fillV Z_eq
set_option maxHeartbeats 1000000 in
theorem rshift10 {k j : Nat} {vs : List V} {l : List Int} {v : V} {s : Int} (hv : IsP k vs l) (hs : IsZ j v s) (hk : k ≤ 2 ^ 18) (hj : j ≤ 2 ^ 18) (hn : vs.length ≤ 2 ^ 18) (hb : k + vs.length * (j + 4) ≤ 2 ^ 20) :
    Spec Tryz.prog f_ref10_Shift [.sl (some 2) vs, v] (· = [.pure (.sl (some 2) (PZ (tr (shL s l))))]) := by
  have o1 := rof 1 (by omega) (by omega)
  have xl := hs.zlen
  have hlen := hv.len
  have hs2 := hs
  obtain ⟨n, d, rfl, hd, hxd⟩ := hs
  have i1 : IsP (j + 1) [zv n d, Z 1] [s, 1] := ⟨rfl, fun i h => by
    match i, h with
    | 0, _ => exact hs2.mono (by omega)
    | 1, _ => exact isZ_of (by have := zlen_one; simp; omega)⟩
  have w0 : IntKind.i64.wrap ((vs.length : Int) - 1) = (vs.length : Int) - 1 := i64_int _ (by omega) (by omega)
  have hsl : ∀ k, (tr (shL s (l.drop k))).length ≤ vs.length := fun k => by
    rw [sh_len]
    have := tr_len (l.drop k)
    rw [List.length_drop] at this
    omega
  have hsb : ∀ m, PL (2 ^ 20) (tr (shL s (l.drop m))) := fun m => by
    refine pl_tr ((pl_sh xl (pl_drop hv.pl m)).mono ?_)
    have h1 : (l.drop m).length * (j + 4) ≤ vs.length * (j + 4) := Nat.mul_le_mul_right _ (by rw [List.length_drop]; omega)
    omega
  refine spec_at Tryz.func34 ok_ref10_Shift [] rfl (by simp) ?_
  unfold sc_ref10_Shift
  refine WS_seq (WS_reg [] ?_); simp [w0]
  refine WS_seq (WS_reg [] ?_); simp [w0]
  refine WS_seq (WS_seq (WS_reg [] ?_)); simp [w0]
  refine WS_block ?_
  refine WS_loop (RhS vs l s n d) (dnM 6) ⟨l.length, Nat.le_refl _, rfl, by rw [← hlen]; rfl, by rw [List.drop_length]; rfl, rfl, rfl⟩ ?_
  rintro S ⟨m, hm, s0, s6, s5, s3, h3⟩
  have d6 := dnM_eq s6
  cases m with
  | zero =>
    rw [List.drop_zero] at s5
    obtain ⟨W, hW⟩ : ∃ W, W = PZ (tr (shL s l)) := ⟨_, rfl⟩
    rw [← hW] at s5 ⊢
    refine WS_seq (WS_seq (WS_reg [] ?_)); simp [s0, s6, s5, s3, h3]
    refine WS_cond (t := false) (by simp [s0, s6, s5, s3, h3]) (fun h => by cases h) (fun _ => ?_)
    refine WS_exit ?_; simp [s0, s6, s5, s3, h3]
    refine WS_seq (WS_reg [] ?_); simp [s0, s6, s5, s3, h3]
    refine WS_ret ?_; simp [s0, s6, s5, s3, h3]
  | succ m =>
    have hmv : m < vs.length := by omega
    have hmI : (m : Int) < (vs.length : Int) := by omega
    obtain ⟨b, t, hvi, hz, hzi⟩ := hv.cell m hmv
    have hb1 := hsb (m + 1)
    have mu := own_plain (rmul10 (isP_PZ hb1) (i1.mono (show j + 1 ≤ 2 ^ 20 by omega)) (by omega) (by rw [PZ_length]; have := hsl (m + 1); omega) (by simp))
    have pm : PL (2 ^ 22) (tr (mulL (tr (shL s (l.drop (m + 1)))) [s, 1])) := pl_tr fun i => by
      rw [mulL_comm _ _ i]
      have h1 := pl_mul hb1 (k := j + 1) (a := [s, 1]) (fun i => by
        cases i with
        | zero => rw [cf_zero]; omega
        | succ i => cases i with
          | zero => have := zlen_one; rw [cf_succ, cf_zero]; omega
          | succ i => rw [cf_succ, cf_succ, cf_nil, zlen_zero]; omega) i
      simp only [List.length_cons, List.length_nil] at h1
      omega
    have lm : (tr (mulL (tr (shL s (l.drop (m + 1)))) [s, 1])).length ≤ 2 ^ 20 := by
      have h1 := tr_len (mulL (tr (shL s (l.drop (m + 1)))) [s, 1])
      have h2 := mulL_len [s, 1] (tr (shL s (l.drop (m + 1))))
      have h3 := hsl (m + 1)
      simp only [List.length_cons, List.length_nil] at h2
      omega
    have ic : IsP (2 ^ 22) [zv b t] [cf l m] := ⟨rfl, fun i h => by
      match i, h with
      | 0, _ => exact ⟨b, t, rfl, hz.mono (by omega), by rw [cf_zero]; exact hzi⟩⟩
    have ad := own_plain (radd10 (isP_PZ pm) ic (by omega) (by rw [PZ_length]; omega) (by simp))
    rw [shL_drop (by omega)] at ad
    have e1 : ((m + 1 : Nat) : Int) - 1 = (m : Int) := by omega
    rw [e1] at s6
    have w1 : IntKind.i64.wrap ((m : Int) - 1) = (m : Int) - 1 := i64_int _ (by omega) (by omega)
    obtain ⟨O, hO⟩ : ∃ O, O = PZ (tr (shL s (l.drop (m + 1)))) := ⟨_, rfl⟩
    rw [← hO] at mu s5
    obtain ⟨U, hU⟩ : ∃ O, O = PZ (tr (mulL (tr (shL s (l.drop (m + 1)))) [s, 1])) := ⟨_, rfl⟩
    rw [← hU] at mu ad
    obtain ⟨T, hT⟩ : ∃ O, O = PZ (tr (shL s (l.drop m))) := ⟨_, rfl⟩
    rw [← hT] at ad
    refine WS_seq (WS_seq (WS_reg [] ?_)); simp [s0, s6, s5, s3, h3, hmv, hmI, hvi, w1]
    refine WS_cond (t := true) (by simp [s0, s6, s5, s3, h3, hmv, hmI, hvi, w1]) (fun _ => ?_) (fun h => by cases h)
    refine WS_skip ?_; simp [s0, s6, s5, s3, h3, hmv, hmI, hvi, w1]
    refine WS_seq (WS_block (WS_regD [] ?_)); simp [s0, s6, s5, s3, h3, hmv, hmI, hvi, w1]
    refine callD o1 rfl ?_; simp [s0, s6, s5, s3, h3, hmv, hmI, hvi, w1]
    refine callD mu rfl ?_; simp [s0, s6, s5, s3, h3, hmv, hmI, hvi, w1]
    refine callD ad rfl ?_; simp [s0, s6, s5, s3, h3, hmv, hmI, hvi, w1]
    refine ⟨rfl, ?_⟩
    refine WS_reg [] ?_; simp [s0, s6, s5, s3, h3, hmv, hmI, hvi, w1]
    refine ⟨⟨m, by omega, by simp [s0], by simp, by simp [hT], by simp [s3], by simp [h3]⟩, ?_⟩
    rw [d6, dnM_eq (i := 6) (k := m) (by simp)]
    omega
set_option maxHeartbeats 1000000 in
theorem rmod10 {k : Nat} {vs : List V} {l : List Int} (hv : IsP k vs l) (hk : k ≤ 2 ^ 33) (hn : vs.length ≤ 2 ^ 40) (p : Int) (h1 : -9223372036854775808 ≤ p) (h2 : p ≤ 9223372036854775807) : Spec Tryz.prog f_ref10_Mod [.sl (some 2) vs, .i .i64 p] (· = modQ p l) := by
  rw [modQ]
  by_cases hp : p < 1
  · rw [if_pos hp]
    refine spec_at Tryz.func26 ok_ref10_Mod [] rfl (by simp) ?_
    unfold sc_ref10_Mod
    refine WS_seq (WS_reg [] ?_); simp [hp]
    refine WS_seq (WS_seq (WS_reg [] ?_)); simp [hp]
    refine WS_cond (t := true) (by simp [hp]) (fun _ => ?_) (fun h => by cases h)
    refine WS_seq (WS_reg [] ?_); simp [hp]
    refine WS_ret ?_; simp [hp]
  rw [if_neg hp, rsL]
  have hlen := hv.len
  have hRl : ((List.range l.length).map fun i => cf l i % p).length = vs.length := by rw [hlen]; simp
  have hRc : ∀ i, i < vs.length → cf ((List.range l.length).map fun i => cf l i % p) i = cf l i % p := fun i hi => by rw [cf_range, if_pos (by omega)]
  obtain ⟨R, hR⟩ : ∃ R, R = (List.range l.length).map fun i => cf l i % p := ⟨_, rfl⟩
  rw [← hR] at hRl ⊢
  rw [← hR] at hRc
  clear hR
  refine spec_at Tryz.func26 ok_ref10_Mod [] rfl (by simp) ?_
  unfold sc_ref10_Mod
  refine WS_seq (WS_reg [] ?_); simp [hp]
  refine WS_seq (WS_seq (WS_reg [] ?_)); simp [hp]
  refine WS_cond (t := false) (by simp [hp]) (fun h => by cases h) (fun _ => ?_)
  refine WS_skip ?_; simp [hp]
  refine WS_seq (WS_reg [6] ?_); simp [hp]
  refine WS_seq (WS_seq (WS_reg [] ?_)); simp [hp]
  refine WS_block ?_
  refine WS_loop (RmdJ vs p R) (fun S => vs.length - nM 7 S) ⟨0, 1, by omega, rfl, rfl, rfl, rfl, by simp [IL]⟩ ?_
  rintro S ⟨i, g, hi, s0, s1, s7, s6, h6⟩
  have d7 := nM_eq s7
  by_cases hlt : i < vs.length
  · obtain ⟨b2, d2, hvi, hzw, hzi⟩ := hv.cell i hlt
    have md := rmod (hv.get i hlt) hk p h1 h2
    rw [modR, if_neg (by omega), hvi, ← hRc i hlt] at md
    have hltI : (i : Int) < (vs.length : Int) := by omega
    have wi := i64_succ i (by omega)
    have hpl : (IL (R.take i)).length = i := by rw [IL_length]; simp; omega
    have hsn : IL (R.take i) ++ [.i .i64 (cf R i)] = IL (R.take (i + 1)) := by
      rw [List.take_succ_eq_append_getElem (by omega), cf_lt (by omega), IL, IL, List.map_append]; rfl
    obtain ⟨O, hO⟩ : ∃ O, O = IL (R.take i) := ⟨_, rfl⟩
    rw [← hO] at hpl hsn h6
    have hto : O.take i = O := List.take_of_length_le (by omega)
    obtain ⟨y, hy⟩ : ∃ y, y = cf R i := ⟨_, rfl⟩
    rw [← hy] at md hsn
    refine WS_seq (WS_seq (WS_reg [] ?_)); simp [s0, s1, s7, s6, h6, hlt, hltI, hvi, wi, hpl, hto]
    refine WS_cond (t := true) (by simp [s0, s1, s7, s6, h6, hlt, hltI, hvi, wi, hpl, hto]) (fun _ => ?_) (fun h => by cases h)
    refine WS_skip ?_; simp [s0, s1, s7, s6, h6, hlt, hltI, hvi, wi, hpl, hto]
    refine WS_seq (WS_block (WS_seq (WS_reg [] ?_))); simp [s0, s1, s7, s6, h6, hlt, hltI, hvi, wi, hpl, hto]
    refine callK md ?_; simp [s0, s1, s7, s6, h6, hlt, hltI, hvi, wi, hpl, hto]
    refine WS_reg [] ?_; simp [s0, s1, s7, s6, h6, hlt, hltI, hvi, wi, hpl, hto]
    refine ⟨by omega, ?_⟩
    refine WS_reg [] ?_; simp [s0, s1, s7, s6, h6, hlt, hltI, hvi, wi, hpl, hto]
    refine ⟨⟨i + 1, g + 1, by omega, by simp [s0], by simp [s1], by simp, by simp, by simp [hsn]⟩, ?_⟩
    show vs.length - nM 7 _ < vs.length - nM 7 S
    rw [d7, nM_eq (i := 7) (n := i + 1) (by simp)]
    omega
  · obtain rfl : i = vs.length := by omega
    have hltI : ¬ (vs.length : Int) < (vs.length : Int) := by omega
    rw [← hRl, List.take_length] at h6
    have hpl := IL_length R
    rw [hRl] at hpl
    have hig := fun i h => IL_get R i h
    obtain ⟨O, hO⟩ : ∃ O, O = IL R := ⟨_, rfl⟩
    rw [← hO] at hpl h6
    simp only [← hO] at hig
    have hto : O.take vs.length = O := List.take_of_length_le (by omega)
    refine WS_seq (WS_seq (WS_reg [] ?_)); simp [s0, s1, s7, s6, h6, hltI, hpl, hto]
    refine WS_cond (t := false) (by simp [s0, s1, s7, s6, h6, hltI, hpl, hto]) (fun h => by cases h) (fun _ => ?_)
    refine WS_exit ?_; simp [s0, s1, s7, s6, h6, hltI, hpl, hto]
    refine WS_frz 6 6 none ?_
    simp [frzQ, s6, h6, hpl, hto]
    refine WS_seq (WS_reg [] ?_); simp [s0, s1, s7, s6, h6, hltI, hpl, hto]
    refine WS_seq (WS_block ?_)
    refine WS_loop (RmdS R) (nM 10) ⟨R.length, Nat.le_refl _, by simp [hO], by simp [hRl], fun i hi => cf_ge hi⟩ ?_
    clear s0 s1 s7 s6 h6 d7
    rintro S ⟨m, hm, s6, s10, hz⟩
    rw [← hO] at s6
    have d10 := nM_eq s10
    have fin : (m = 0 ∨ cf R (m - 1) ≠ 0) → IL (tr R) = O.take m := fun h => by rw [hO, IL_take, tr_take hm hz h]
    cases m with
    | zero =>
      rw [fin (.inl rfl)]
      refine WS_seq (WS_seq (WS_reg [] ?_)); simp [s6, s10, hpl]
      refine WS_cond (t := false) (by simp [s6, s10, hpl]) (fun h => by cases h) (fun _ => ?_)
      refine WS_exit ?_; simp [s6, s10, hpl]
      refine WS_seq (WS_reg [] ?_); simp [s6, s10, hpl]
      refine WS_ret ?_; simp [s6, s10, hpl]
    | succ j =>
      have hg := hig j (by omega)
      have hjv : j < vs.length := by omega
      have hjI : (j : Int) < (vs.length : Int) := by omega
      have hj1 : j + 1 ≤ vs.length := by omega
      have hj1I : (j : Int) + 1 ≤ (vs.length : Int) := by omega
      have wj := i64_nat j (by omega)
      by_cases h0 : cf R j = 0
      · refine WS_seq (WS_seq (WS_reg [] ?_)); simp [s6, s10, hpl, hg, hjv, hjI, wj, h0]
        refine WS_cond (t := true) (by simp [s6, s10, hpl, hg, hjv, hjI, wj, h0]) (fun _ => ?_) (fun h => by cases h)
        refine WS_skip ?_; simp [s6, s10, hpl, hg, hjv, hjI, wj, h0]
        refine WS_block (WS_reg [] ?_); simp [s6, s10, hpl, hg, hjv, hjI, wj, h0]
        refine ⟨⟨j, by omega, by simp [s6, hO], by simp, fun i hi => ?_⟩, ?_⟩
        · rcases Nat.lt_or_ge j i with h | h
          · exact hz i h
          · rw [show i = j by omega]; exact h0
        · rw [d10, nM_eq (i := 10) (n := j) (by simp)]
          omega
      · rw [fin (.inr h0)]
        refine WS_seq (WS_seq (WS_reg [] ?_)); simp [s6, s10, hpl, hg, hjv, hjI, wj, h0, hj1, hj1I]
        refine WS_cond (t := false) (by simp [s6, s10, hpl, hg, hjv, hjI, wj, h0, hj1, hj1I]) (fun h => by cases h) (fun _ => ?_)
        refine WS_exit ?_; simp [s6, s10, hpl, hg, hjv, hjI, wj, h0, hj1, hj1I]
        refine WS_seq (WS_reg [] ?_); simp [s6, s10, hpl, hg, hjv, hjI, wj, h0, hj1, hj1I]
        refine ⟨by omega, ?_⟩
        refine WS_ret ?_; simp [s6, s10, hpl, hg, hjv, hjI, wj, h0, hj1, hj1I]
end Go.Vw
set_option linter.unusedVariables false
set_option linter.unusedSimpArgs false
namespace Go.Vw
open Go.Proofs Go.Py

attribute [local simp] RunL_cons RunL_nil AOp_none AOp_some acK_v acK_call agK_tt agK_ff agK_tf agK_ft agK_tup agK_i aop aun St.ev St.heap St.put thenQ blockQ scopeQ upd_apply S0 argSlot lowV V.cells V.isAgg V.fits V.part partOk plains St.ret retSV svOf svsOf retQ retP retAll retOne uL_length uL_get? uL_get St.elems retH ownIdx ownAt
attribute [local simp] RunD_none RunD_some RunD_nil RunE_any acD_v acD_call agD_tt agD_ff agD_tf agD_ft agD_tup entsOf svref SO.opds SO.writes SO.makes callEnt pureSV pureOf RV.isOwn
attribute [local simp] abin_add abin_sub abin_mul abin_quo abin_rem abin_eql abin_neq abin_lss abin_leq abin_gtr abin_geq
attribute [local simp] uL_snoc uL_set uL_take uL_drop uL_append uL_replicate uL_nil
attribute [local simp] acK_callG acD_callG St.giv gsSV gvSV retEnts ownEnts SO.still
attribute [local simp] S0G argSlotG givSV retQG retPG retAllG retOneG HObj.width V.scalar trimQ V.byte
attribute [local simp] zv V.fits fillOk fillV Z_eq
end Go.Vw
set_option linter.unusedVariables false
set_option linter.unusedSimpArgs false
namespace Go.Vw
open Go.Proofs Go.Py

attribute [local simp] RunL_cons RunL_nil AOp_none AOp_some acK_v acK_call agK_tt agK_ff agK_tf agK_ft agK_tup agK_i aop aun St.ev St.heap St.put thenQ blockQ scopeQ upd_apply S0 argSlot lowV V.cells V.isAgg V.fits V.part partOk plains St.ret retSV svOf svsOf retQ retP retAll retOne uL_length uL_get? uL_get St.elems retH ownIdx ownAt
attribute [local simp] RunD_none RunD_some RunD_nil RunE_any acD_v acD_call agD_tt agD_ff agD_tf agD_ft agD_tup entsOf svref SO.opds SO.writes SO.makes callEnt pureSV pureOf RV.isOwn
attribute [local simp] abin_add abin_sub abin_mul abin_quo abin_rem abin_eql abin_neq abin_lss abin_leq abin_gtr abin_geq
attribute [local simp] uL_snoc uL_set uL_take uL_drop uL_append uL_replicate uL_nil
attribute [local simp] acK_callG acD_callG St.giv gsSV gvSV retEnts ownEnts SO.still
attribute [local simp] S0G argSlotG givSV retQG retPG retAllG retOneG HObj.width V.scalar trimQ V.byte
attribute [local simp] zv V.fits fillOk fillV Z_eq
end Go.Vw
set_option linter.unusedVariables false
set_option linter.unusedSimpArgs false
namespace Go.Vw
open Go.Proofs Go.Py

attribute [local simp] RunL_cons RunL_nil AOp_none AOp_some acK_v acK_call agK_tt agK_ff agK_tf agK_ft agK_tup agK_i aop aun St.ev St.heap St.put thenQ blockQ scopeQ upd_apply S0 argSlot lowV V.cells V.isAgg V.fits V.part partOk plains St.ret retSV svOf svsOf retQ retP retAll retOne uL_length uL_get? uL_get St.elems retH ownIdx ownAt
attribute [local simp] RunD_none RunD_some RunD_nil RunE_any acD_v acD_call agD_tt agD_ff agD_tf agD_ft agD_tup entsOf svref SO.opds SO.writes SO.makes callEnt pureSV pureOf RV.isOwn
attribute [local simp] abin_add abin_sub abin_mul abin_quo abin_rem abin_eql abin_neq abin_lss abin_leq abin_gtr abin_geq
attribute [local simp] uL_snoc uL_set uL_take uL_drop uL_append uL_replicate uL_nil
attribute [local simp] acK_callG acD_callG St.giv gsSV gvSV retEnts ownEnts SO.still
attribute [local simp] S0G argSlotG givSV retQG retPG retAllG retOneG HObj.width V.scalar trimQ V.byte
attribute [local simp] zv V.fits fillOk fillV Z_eq
end Go.Vw

