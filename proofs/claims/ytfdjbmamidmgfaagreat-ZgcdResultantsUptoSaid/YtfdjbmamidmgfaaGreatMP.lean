/- Polynomials over the integers. -/
import Derived.Test.YtfdjbmamidmgfaaGreatME
import Derived.Test.YtfdjbmamidmgfaaGreatMD
import Derived.Test.YtfdjbmamidmgfaaGreatPD
import Derived.Test.YtfdjbmamidmgfaaGreatS6
import Derived.Test.YtfdjbmamidmgfaaGreatPG
import Derived.Test.YtfdjbmamidmgfaaGreatMG
import Derived.Test.YtfdjbmamidmgfaaGreatPF
import Derived.Test.YtfdjbmamidmgfaaGreatS7
set_option linter.unusedVariables false
set_option linter.unusedSimpArgs false
namespace Go.Vw
open Go.Proofs Go.Py
structure PW (k : Nat) (M : List (Bool × List Nat)) : Prop where
 len : M.length ≤ k
 each : ∀ p ∈ M, ZW k p.2
theorem polys_eq (M : List (Bool × List Nat)) : ((M.map fun p => (p.1, p.2.map fun x : Nat => (x : Int))).map fun p => V.agg [.b p.1, .sl none (p.2.map fun z => V.i .u64 z)]) = zL M := by
 simp [zL, zv, uL]
def piL (M : List (Bool × List Nat)) : List Int := M.map fun p => zi p.1 p.2
def PZ (l : List Int) : List V := l.map Z
theorem PZ_length (l : List Int) : (PZ l).length = l.length := by simp [PZ]
def PL (k : Nat) (l : List Int) : Prop := ∀ i, zlen (cf l i) ≤ k
theorem PL.mono {k m : Nat} {l : List Int} (h : PL k l) (hk : k ≤ m) : PL m l := fun i => Nat.le_trans (h i) hk
theorem PL.eqp {k : Nat} {a b : List Int} (h : PL k a) (e : Eqp a b) : PL k b := fun i => by rw [← e i]; exact h i
theorem pl_tr {k : Nat} {a : List Int} (h : PL k a) : PL k (tr a) := h.eqp (cf_tr a).symm
theorem pl_sc {k j : Nat} {a : List Int} {c : Int} (h : PL k a) (hc : zlen c ≤ j) : PL (k + j) (scL c a) := fun i => by
 rw [cf_scL]
 have := zlen_mul c (cf a i)
 have := h i
 omega
structure IsP (k : Nat) (vs : List V) (l : List Int) : Prop where
 len : vs.length = l.length
 get : ∀ i (h : i < vs.length), IsZ k (vs[i]) (cf l i)
theorem IsP.mono {k m : Nat} {vs : List V} {l : List Int} (h : IsP k vs l) (hk : k ≤ m) : IsP m vs l := ⟨h.len, fun i hi => (h.get i hi).mono hk⟩
theorem isP_zL {k : Nat} {M : List (Bool × List Nat)} (h : ∀ p ∈ M, ZW k p.2) : IsP k (zL M) (piL M) := by
 refine ⟨by simp [zL, piL], fun i hi => ?_⟩
 have hi' : i < M.length := by simpa [zL] using hi
 rw [cf_lt (by simpa [piL] using hi')]
 simp only [zL, piL, List.getElem_map]
 exact isZ_zv (h _ (List.getElem_mem _))
theorem isP_PZ {k : Nat} {l : List Int} (h : PL k l) : IsP k (PZ l) l := by
 refine ⟨by simp [PZ], fun i hi => ?_⟩
 have hi' : i < l.length := by simpa [PZ] using hi
 have := h i
 rw [cf_lt hi'] at this ⊢
 simp only [PZ, List.getElem_map]
 exact isZ_Z this
theorem IsP.pl {k : Nat} {vs : List V} {l : List Int} (h : IsP k vs l) : PL k l := fun i => by
 by_cases hi : i < vs.length
 · exact (h.get i hi).zlen
 · rw [cf_ge (by have := h.len; omega), zlen_zero]; omega
theorem IsP.take {k : Nat} {vs : List V} {l : List Int} (h : IsP k vs l) (n : Nat) : IsP k (vs.take n) (l.take n) := by
 refine ⟨by have := h.len; simp [this], fun i hi => ?_⟩
 simp only [List.length_take] at hi
 rw [cf_take, if_pos (by omega), List.getElem_take]
 exact h.get i (by omega)
theorem IsP.cell {k : Nat} {vs : List V} {l : List Int} (h : IsP k vs l) (i : Nat) (hi : i < vs.length) : ∃ n d, vs[i] = .agg [.b n, .sl none (uL d)] ∧ ZW k d ∧ zi n d = cf l i := by
 obtain ⟨n, d, e, hz, hx⟩ := h.get i hi
 exact ⟨n, d, e, hz, hx⟩
theorem PZ_get (l : List Int) (i : Nat) (h : i < (PZ l).length) : (PZ l)[i] = .agg [.b (zn (cf l i)), .sl none (uL (zl (cf l i)))] := by
 have hi' : i < l.length := by simpa [PZ] using h
 rw [cf_lt hi']
 simp only [PZ, List.getElem_map]
 rfl
theorem PZ_set (l : List Int) (i : Nat) (x : Int) : (PZ l).set i (Z x) = PZ (l.set i x) := by simp [PZ, List.map_set]
theorem PZ_replicate (n : Nat) : List.replicate n (V.agg [.b false, .sl none []]) = PZ (List.replicate n 0) := by simp [PZ, Z_eq, zn_false, zl_nil, uL]
theorem PZ_snoc (l : List Int) (x : Int) : PZ l ++ [Z x] = PZ (l ++ [x]) := by simp [PZ]
theorem range_cf (l : List Int) (m : Nat) (hm : m ≤ l.length) : (List.range m).map (cf l) = l.take m := by
 refine ext_cf (by simp; omega) fun i => ?_
 rw [cf_range, cf_take]
theorem range_fill (g : Nat → V) (z : V) {k n : Nat} (h : k < n) : ((List.range k).map g ++ List.replicate (n - k) z).set k (g k) = (List.range (k + 1)).map g ++ List.replicate (n - (k + 1)) z := by
 obtain ⟨j, hj⟩ : ∃ j, n - k = j + 1 := ⟨n - k - 1, by omega⟩
 rw [hj, show n - (k + 1) = j by omega, List.range_succ, List.map_append, List.set_append_right _ _ (by simp)]
 simp [List.replicate_succ]
def EaS (n : Nat) (vs : List V) (f : FuncId) (caps : List V) (g : Nat → V) (S : St) : Prop := ∃ k : Nat, k ≤ n ∧ S.σ 1 = .p (.clo f caps) ∧ S.σ 5 = .own 10 1 0 n ∧ S.σ 11 = .p (.sl (some 2) vs) ∧ S.σ 12 = .p (.i .i64 (n : Int)) ∧ S.σ 13 = .p (.i .i64 (k : Int)) ∧
 S.h 10 = ⟨1, some (.arr 28 (some 2) ((List.range k).map g ++ List.replicate (n - k) (.agg [.b false, .sl none []])))⟩
attribute [local simp] zv V.fits fillOk fillV Z_eq
theorem each_vv {vs : List V} (hn : vs.length ≤ 2 ^ 40) (hv : ∀ i (h : i < vs.length), ∃ n d, vs[i] = .agg [.b n, .sl none (uL d)]) (f : FuncId) (caps : List V) (g : Nat → V) (hg : ∀ i, i < vs.length → ∃ n d, g i = .agg [.b n, .sl none (uL d)])
 (hF : ∀ i (h : i < vs.length), Spec Tryz.prog f ([.i .i64 (i : Int), vs[i]] ++ caps) (· = [.pure (g i)])) :
 Spec Tryz.prog f_zpoly_each_api_Int_api_Int [.sl (some 2) vs, .clo f caps] (· = [.own 28 (some 2) ((List.range vs.length).map g)]) := by
 obtain ⟨n, hnn⟩ : ∃ n, n = vs.length := ⟨_, rfl⟩
 rw [← hnn]
 rw [← hnn] at hn
 refine spec_at Tryz.func72 ok_zpoly_each_api_Int_api_Int [true] rfl (by simp) ?_
 unfold sc_zpoly_each_api_Int_api_Int
 refine Wr ?_; simp [hnn.symm]
 refine Wr ?_; simp [hnn.symm]
 refine ⟨by omega, ?_⟩
 refine Ws ?_; simp [hnn.symm]
 refine WS_block ?_
 refine WS_loop (EaS n vs f caps g) (fun S => n - nM 13 S) ⟨0, by omega, rfl, rfl, rfl, rfl, rfl, by simp⟩ ?_
 rintro S ⟨k, hk, s1, s5, s11, s12, s13, h10⟩
 have d13 := nM_eq s13
 by_cases hlt : k < n
 · have hk' : k < vs.length := by omega
   obtain ⟨b, d, hvk⟩ := hv k hk'
   have sp := hF k hk'
   rw [hvk] at sp
   obtain ⟨b2, d2, hgk⟩ := hg k hk'
   have w1 := i64_succ k (by omega)
   have hltI : (k : Int) < (n : Int) := by omega
   have hset := range_fill g (.agg [.b false, .sl none []]) hlt
   obtain ⟨W, hW⟩ : ∃ W, W = (List.range k).map g ++ List.replicate (n - k) (V.agg [.b false, .sl none []]) := ⟨_, rfl⟩
   have hpl : W.length = n := by rw [hW]; simp; omega
   rw [← hW] at hset h10
   rw [hgk] at sp hset
   refine Wr ?_; simp [s1, s5, s11, s12, s13, h10, hlt, hltI, hk', hvk, w1, hpl, hset]
   refine WS_seq ?_
   refine WS_cT (by simp [s1, s5, s11, s12, s13, h10, hlt, hltI, hk', hvk, w1, hpl, hset]) ?_
   refine WS_skip ?_; simp [s1, s5, s11, s12, s13, h10, hlt, hltI, hk', hvk, w1, hpl, hset]
   refine WS_seq (WS_block (Wr ?_)); simp [s1, s5, s11, s12, s13, h10, hlt, hltI, hk', hvk, w1, hpl, hset]
   refine WS_reg [] ?_; simp [s1, s5, s11, s12, s13, h10, hlt, hltI, hk', hvk, w1, hpl, hset]
   refine callK sp ?_; simp [s1, s5, s11, s12, s13, h10, hlt, hltI, hk', hvk, w1, hpl, hset]
   refine WS_reg [] ?_; simp [s1, s5, s11, s12, s13, h10, hlt, hltI, hk', hvk, w1, hpl, hset]
   refine ⟨⟨k + 1, by omega, by simp [s1], by simp [s5], by simp [s11], by simp [s12], by simp, by simp [hset]⟩, ?_⟩
   show n - nM 13 _ < n - nM 13 S
   rw [d13, nM_eq (i := 13) (n := k + 1) (by simp)]
   omega
 · obtain rfl : k = n := by omega
   have hltI : ¬ (k : Int) < (k : Int) := by omega
   have hfull : (List.range k).map g ++ List.replicate (k - k) (V.agg [.b false, .sl none []]) = (List.range k).map g := by simp
   rw [hfull] at h10
   have hpt : ((List.range k).map g).take k = (List.range k).map g := List.take_of_length_le (by simp)
   obtain ⟨W, hW⟩ : ∃ W, W = (List.range k).map g := ⟨_, rfl⟩
   have hpl : W.length = k := by rw [hW]; simp
   rw [← hW] at h10 hpt ⊢
   refine Wr ?_; simp [s1, s5, s11, s12, s13, h10, hltI, hpl, hpt]
   refine WS_seq ?_
   refine WS_cF (by simp [s1, s5, s11, s12, s13, h10, hltI, hpl, hpt]) ?_
   refine WS_exit ?_; simp [s1, s5, s11, s12, s13, h10, hltI, hpl, hpt]
   refine Wr ?_; simp [s1, s5, s11, s12, s13, h10, hltI, hpl, hpt]
   refine WS_ret ?_; simp [s1, s5, s11, s12, s13, h10, hltI, hpl, hpt]
theorem each_zz {vs : List V} (hn : vs.length ≤ 2 ^ 40) (hv : ∀ i (h : i < vs.length), ∃ n d, vs[i] = .agg [.b n, .sl none (uL d)]) (f : FuncId) (caps : List V) (g : Nat → Int)
 (hF : ∀ i (h : i < vs.length), Spec Tryz.prog f ([.i .i64 (i : Int), vs[i]] ++ caps) (· = [.pure (Z (g i))])) :
 Spec Tryz.prog f_zpoly_each_api_Int_api_Int [.sl (some 2) vs, .clo f caps] (· = [.own 28 (some 2) (PZ ((List.range vs.length).map g))]) := by
 have := each_vv hn hv f caps (fun i => Z (g i)) (fun i _ => ⟨_, _, rfl⟩) hF
 rw [PZ, List.map_map]
 exact this
theorem norm1 {k : Nat} {v : V} {x : Int} (hv : IsZ k v x) (hk : k ≤ 2 ^ 40) (i : Int) : Spec Tryz.prog f_zpoly_Norm_1 [.i .i64 i, v] (· = [.pure (Z x)]) := by
 have nm := znorm hv hk
 obtain ⟨n, l, rfl, h, hx⟩ := hv
 refine spec_at Tryz.func80 ok_zpoly_Norm_1 [] rfl (by simp) ?_
 unfold sc_zpoly_Norm_1
 refine Wr ?_; simp
 refine Wr ?_; simp
 refine callK nm ?_; simp
 refine WS_ret ?_; simp
def NoS (vs : List V) (l : List Int) (S : St) : Prop := ∃ m : Nat, m ≤ vs.length ∧ S.σ 0 = .p (.sl (some 2) (vs.take m)) ∧ ∀ i, m ≤ i → cf l i = 0
def slL (i : Nat) (S : St) : Nat := match S.σ i with | .p (.sl _ xs) => xs.length | _ => 0
theorem slL_eq {i : Nat} {S : St} {sz : Option Nat} {xs : List V} (h : S.σ i = .p (.sl sz xs)) : slL i S = xs.length := by simp only [slL, h]
theorem pnorm {k : Nat} {vs : List V} {l : List Int} (hv : IsP k vs l) (hk : k ≤ 2 ^ 40) (hn : vs.length ≤ 2 ^ 40) : Spec Tryz.prog f_zpoly_Norm [.sl (some 2) vs] (· = [.own 28 (some 2) (PZ (tr l))]) := by
 refine spec_at Tryz.func28 ok_zpoly_Norm [true] rfl (by simp) ?_
 unfold sc_zpoly_Norm
 refine Wr ?_; simp
 refine WS_seq (WS_block ?_)
 refine WS_loop (NoS vs l) (slL 0) ⟨vs.length, Nat.le_refl _, by simp, fun i hi => cf_ge (by have := hv.len; omega)⟩ ?_
 rintro S ⟨m, hm, s0, hz⟩
 have d0 := slL_eq s0
 have hlen : (vs.take m).length = m := by simp; omega
 rw [hlen] at d0
 have fin : (m = 0 ∨ cf l (m - 1) ≠ 0) → Spec Tryz.prog f_zpoly_each_api_Int_api_Int [.sl (some 2) (vs.take m), .clo f_zpoly_Norm_1 []] (· = [.own 28 (some 2) (PZ (tr l))]) := by
  intro h
  have ea := each_zz (vs := vs.take m) (by omega) (fun i h => by
   obtain ⟨b, d, e, _⟩ := (hv.take m).cell i h
   exact ⟨b, d, e⟩) f_zpoly_Norm_1 [] (cf l) (fun i h => by
   have hi : i < m := by omega
   have hz := (hv.take m).get i h
   rw [cf_take, if_pos hi] at hz
   exact norm1 hz hk _)
  rw [hlen, range_cf l m (by have := hv.len; omega), ← tr_take (by have := hv.len; omega) hz h] at ea
  exact ea
 cases m with
 | zero =>
  have ea := fin (.inl rfl)
  refine Ws ?_; simp [s0, hlen]
  refine WS_cF (by simp [s0, hlen]) ?_
  refine WS_exit ?_; simp [s0, hlen]
  refine Wr ?_; simp [s0, hlen]
  refine callK ea ?_; simp [s0, hlen]
  refine WS_ret ?_; simp [s0, hlen]
 | succ j =>
  have hj : j < vs.length := by omega
  obtain ⟨b, d, hvj, hzw, hzi⟩ := hv.cell j hj
  have sg := zsign (isZ_zv (n := b) hzw) hk
  rw [hzi] at sg
  have w1 := i64_nat j (by omega)
  have hlen1 : (vs.take (j + 1)).length = j + 1 := hlen
  by_cases h0 : cf l j = 0
  · rw [h0, Int.sign_zero] at sg
    refine Ws ?_; simp [s0, hlen1, w1, hj, hvj]
    refine ⟨by omega, ?_⟩
    refine callK sg ?_; simp [s0, hlen1, w1, hj, hvj]
    refine WS_cT (by simp [s0, hlen1, w1, hj, hvj]) ?_
    refine WS_skip ?_; simp [s0, hlen1, w1, hj, hvj]
    refine WS_block (WS_reg [] ?_); simp [s0, hlen1, w1, hj, hvj]
    refine ⟨by omega, ⟨j, by omega, by simp [List.take_take], fun i hi => ?_⟩, ?_⟩
    · rcases Nat.lt_or_ge j i with h | h
      · exact hz i h
      · rw [show i = j by omega]; exact h0
    · rw [d0, slL_eq (i := 0) (sz := some 2) (xs := vs.take j) (by simp [List.take_take])]
      simp
      omega
  · have hs : ¬ (cf l j).sign = 0 := by rw [Int.sign_eq_zero_iff_zero]; exact h0
    have ea := fin (.inr h0)
    refine Ws ?_; simp [s0, hlen1, w1, hj, hvj, hs]
    refine ⟨by omega, ?_⟩
    refine callK sg ?_; simp [s0, hlen1, w1, hj, hvj, hs]
    refine WS_cF (by simp [s0, hlen1, w1, hj, hvj, hs]) ?_
    refine WS_exit ?_; simp [s0, hlen1, w1, hj, hvj, hs]
    refine Wr ?_; simp [s0, hlen1, w1, hj, hvj, hs]
    refine callK ea ?_; simp [s0, hlen1, w1, hj, hvj, hs]
    refine WS_ret ?_; simp [s0, hlen1, w1, hj, hvj, hs]
theorem range_scL (c : Int) (l : List Int) : (List.range l.length).map (fun i => cf l i * c) = scL c l := by
 refine ext_cf (by simp [scL]) fun i => ?_
 rw [cf_range, cf_scL]
 split
 · exact Int.mul_comm _ _
 · rw [cf_ge (by omega), Int.mul_zero]
theorem own_plain {f : FuncId} {args : List V} {T : TypeId} {sz : Option Nat} {xs : List V} (h : Spec Tryz.prog f args (· = [.own T sz xs])) : Spec Tryz.prog f args (· = [.pure (.sl sz xs)]) :=
 h.plain fun r e => by rw [e]; rfl
theorem scale1 {k j : Nat} {v : V} {x : Int} {n : Bool} {d : List Nat} (hv : IsZ k v x) (hc : ZW j d) (hk : k ≤ 2 ^ 27) (hj : j ≤ 2 ^ 27) (i : Int) : Spec Tryz.prog f_zpoly_Scale_1 [.i .i64 i, v, .ref (some 2) (.agg [.b n, .sl none (uL d)])] (· = [.pure (Z (x * zi n d))]) := by
 have mu := zmul (hv.mono (show k ≤ k + j by omega)) ((isZ_zv (n := n) hc).mono (show j ≤ k + j by omega)) (by omega)
 obtain ⟨b, l, rfl, h, hx⟩ := hv
 obtain ⟨y, hy⟩ : ∃ y, y = x * zi n d := ⟨_, rfl⟩
 rw [← hy] at mu ⊢
 refine spec_at Tryz.func126 ok_zpoly_Scale_1 [] rfl (by simp) ?_
 unfold sc_zpoly_Scale_1
 refine Wr ?_; simp
 refine Wr ?_; simp
 refine callK mu ?_; simp
 refine WS_ret ?_; simp
theorem pscale {k j : Nat} {vs : List V} {l : List Int} {v : V} {c : Int} (hv : IsP k vs l) (hc : IsZ j v c) (hk : k ≤ 2 ^ 26) (hj : j ≤ 2 ^ 26) (hn : vs.length ≤ 2 ^ 40) : Spec Tryz.prog f_zpoly_Scale [.sl (some 2) vs, v] (· = [.own 28 (some 2) (PZ (tr (scL c l)))]) := by
 have hcl := hc.zlen
 obtain ⟨n, d, rfl, hd, rfl⟩ := hc
 have ea := own_plain (each_zz (vs := vs) hn (fun i h => by
  obtain ⟨b, d, e, _⟩ := hv.cell i h
  exact ⟨b, d, e⟩) f_zpoly_Scale_1 [.ref (some 2) (.agg [.b n, .sl none (uL d)])] (fun i => cf l i * zi n d) (fun i h => scale1 (hv.get i h) hd (by omega) (by omega) _))
 rw [hv.len, range_scL] at ea
 have hl2 : (scL (zi n d) l).length = vs.length := by rw [hv.len]; simp [scL]
 have nm := pnorm (isP_PZ (pl_sc (c := zi n d) hv.pl hcl)) (by omega) (by rw [PZ_length, hl2]; exact hn)
 obtain ⟨L, hL⟩ : ∃ L, L = PZ (scL (zi n d) l) := ⟨_, rfl⟩
 rw [← hL] at ea nm
 refine spec_at Tryz.func76 ok_zpoly_Scale [true] rfl (by simp) ?_
 unfold sc_zpoly_Scale
 refine Wr ?_; simp
 refine WS_frz 3 3 (some 2) ?_
 simp [frzQ]
 refine Wr ?_; simp
 refine callK ea ?_; simp
 refine callK nm ?_; simp
 refine WS_ret ?_; simp
theorem add1_ {k : Nat} {v : V} {x : Int} {ws : List V} {b : List Int} (hv : IsZ k v x) (hw : IsP k ws b) (hk : k ≤ 2 ^ 30) (i : Nat) (hi : i ≤ 2 ^ 40) (hl : ws.length ≤ 2 ^ 40) (hr : i < ws.length → True) :
 i < ws.length → Spec Tryz.prog f_zpoly_Add_1 [.i .i64 (i : Int), v, .ref none (.sl (some 2) ws)] (· = [.pure (Z (x + cf b i))]) := by
 intro hlt
 obtain ⟨n2, d2, hwi, hz2, hx2⟩ := hw.cell i hlt
 have ad := zadd hv (hw.get i hlt) (by omega)
 rw [hwi] at ad
 obtain ⟨n, l, rfl, h, hx⟩ := hv
 obtain ⟨y, hy⟩ : ∃ y, y = x + cf b i := ⟨_, rfl⟩
 rw [← hy] at ad ⊢
 have hltI : (i : Int) < (ws.length : Int) := by omega
 refine spec_at Tryz.func206 ok_zpoly_Add_1 [] rfl (by simp) ?_
 unfold sc_zpoly_Add_1
 refine Wr ?_; simp [hlt, hltI, hwi]
 refine Ws ?_; simp [hlt, hltI, hwi]
 refine WS_cT (by simp [hlt, hltI, hwi]) ?_
 refine WS_seq (WS_regD [] ?_); simp [hlt, hltI, hwi]
 refine callD ad rfl ?_; simp [hlt, hltI, hwi]
 refine ⟨rfl, ?_⟩
 refine WS_ret ?_; simp [hlt, hltI, hwi]
theorem psub {k : Nat} {vs ws : List V} {a b : List Int} (hadd : ∀ us c, IsP (k + 1) us c → us.length ≤ ws.length → Spec Tryz.prog f_zpoly_Add [.sl (some 2) vs, .sl (some 2) us] (· = [.own 28 (some 2) (PZ (tr (addL a c)))]))
 (hw : IsP k ws b) (hk : k ≤ 2 ^ 25) (hn : ws.length ≤ 2 ^ 40) : Spec Tryz.prog f_zpoly_Sub [.sl (some 2) vs, .sl (some 2) ws] (· = [.own 28 (some 2) (PZ (tr (addL a (scL (-1) b))))]) := by
 have o1 := zof (-1) (by omega) (by omega)
 have l1 : zlen (-1) ≤ 1 := zlen_small (by decide)
 have sc := own_plain (pscale hw (isZ_Z l1) (by omega) (by omega) hn)
 have hl : (PZ (tr (scL (-1) b))).length ≤ ws.length := by
  rw [PZ_length]
  have h1 := tr_len (scL (-1) b)
  have h2 : (scL (-1) b).length = b.length := by simp [scL]
  have := hw.len
  omega
 have ad := hadd _ _ (isP_PZ (pl_tr (pl_sc (c := -1) hw.pl l1))) hl
 have e : tr (addL a (tr (scL (-1) b))) = tr (addL a (scL (-1) b)) := tr_of_eqp (eqp_addL Eqp.rfl' (cf_tr _))
 rw [e] at ad
 obtain ⟨L, hL⟩ : ∃ L, L = PZ (tr (scL (-1) b)) := ⟨_, rfl⟩
 rw [← hL] at sc ad
 obtain ⟨R, hR⟩ : ∃ L, L = PZ (tr (addL a (scL (-1) b))) := ⟨_, rfl⟩
 rw [← hR] at ad ⊢
 refine spec_at Tryz.func123 ok_zpoly_Sub [true] rfl (by simp) ?_
 unfold sc_zpoly_Sub
 refine Wr ?_; simp
 refine Wr ?_; simp
 refine callK o1 ?_; simp
 refine callK sc ?_; simp
 refine callK ad ?_; simp
 refine WS_ret ?_; simp
def dnM (i : Nat) (S : St) : Nat := match S.σ i with | .p (.i _ n) => (n + 1).toNat | _ => 0
theorem dnM_eq {i : Nat} {S : St} {k : Nat} (h : S.σ i = .p (.i .i64 ((k : Int) - 1))) : dnM i S = k := by simp only [dnM, h]; omega
theorem addL_length : ∀ a b : List Int, b.length ≤ a.length → (addL a b).length = a.length
 | [], b, h => by cases b <;> simp_all [addL]
 | x :: a, [], h => rfl
 | x :: a, y :: b, h => by simp [addL]; exact addL_length a b (by simpa using h)
def adV (vs : List V) (a b : List Int) (n : Nat) (i : Nat) : V := if i < n then Z (cf a i + cf b i) else vs.getD i default
theorem isP_add {k : Nat} {vs ws : List V} {a b : List Int} (hv : IsP k vs a) (hw : IsP k ws b) (h : ws.length ≤ vs.length) : IsP (k + 1) ((List.range vs.length).map (adV vs a b ws.length)) (addL a b) := by
 have h1 := hv.len
 have h2 := hw.len
 refine ⟨by simp [addL_length a b (by omega), h1], fun i hi => ?_⟩
 have hi' : i < vs.length := by simpa using hi
 simp only [List.getElem_map, List.getElem_range, adV]
 rw [cf_addL]
 split
 · refine isZ_Z ?_
   have := zlen_add (cf a i) (cf b i)
   have := hv.pl i
   have := hw.pl i
   omega
 · rw [cf_ge (l := b) (by omega), Int.add_zero, List.getD_eq_getElem?_getD, List.getElem?_eq_getElem hi']
   exact (hv.get i hi').mono (by omega)
theorem add2_ {n : Bool} {d : List Nat} {ws : List V} (i : Nat) (hi : ws.length ≤ i) (hi2 : i ≤ 2 ^ 40) :
 Spec Tryz.prog f_zpoly_Add_1 [.i .i64 (i : Int), .agg [.b n, .sl none (uL d)], .ref none (.sl (some 2) ws)] (· = [.pure (.agg [.b n, .sl none (uL d)])]) := by
 have hltI : ¬ (i : Int) < (ws.length : Int) := by omega
 have hlt : ¬ i < ws.length := by omega
 refine spec_at Tryz.func206 ok_zpoly_Add_1 [] rfl (by simp) ?_
 unfold sc_zpoly_Add_1
 refine Wr ?_; simp [hlt, hltI]
 refine Ws ?_; simp [hlt, hltI]
 refine WS_cF (by simp [hlt, hltI]) ?_
 refine WS_skip ?_; simp [hlt, hltI]
 refine Wr ?_; simp [hlt, hltI]
 refine WS_ret ?_; simp [hlt, hltI]
theorem padd_each {k : Nat} {vs ws : List V} {a b : List Int} (hv : IsP k vs a) (hw : IsP k ws b) (h : ws.length ≤ vs.length) (hk : k ≤ 2 ^ 30) (hn : vs.length ≤ 2 ^ 40) :
 Spec Tryz.prog f_zpoly_each_api_Int_api_Int [.sl (some 2) vs, .clo f_zpoly_Add_1 [.ref none (.sl (some 2) ws)]] (· = [.pure (.sl (some 2) ((List.range vs.length).map (adV vs a b ws.length)))]) := by
 refine own_plain (each_vv hn (fun i hi => ?_) _ _ _ (fun i hi => ?_) (fun i hi => ?_))
 · obtain ⟨c, d, e, _⟩ := hv.cell i hi
   exact ⟨c, d, e⟩
 · rw [adV]
   split
   · exact ⟨_, _, rfl⟩
   · obtain ⟨c, d, e, _⟩ := hv.cell i hi
     exact ⟨c, d, by rw [List.getD_eq_getElem?_getD, List.getElem?_eq_getElem hi]; exact e⟩
 · rw [adV]
   split
   · rename_i hlt
     exact add1_ (hv.get i hi) hw hk i (by omega) (by omega) (fun _ => trivial) hlt
   · obtain ⟨c, d, e, _⟩ := hv.cell i hi
     have := add2_ (n := c) (d := d) (ws := ws) i (by omega) (by omega)
     rw [← e] at this
     rw [List.getD_eq_getElem?_getD, List.getElem?_eq_getElem hi]
     exact this
theorem padd {k : Nat} {vs ws : List V} {a b : List Int} (hv : IsP k vs a) (hw : IsP k ws b) (hk : k ≤ 2 ^ 30) (hn : vs.length ≤ 2 ^ 40) (hn2 : ws.length ≤ 2 ^ 40) :
 Spec Tryz.prog f_zpoly_Add [.sl (some 2) vs, .sl (some 2) ws] (· = [.own 28 (some 2) (PZ (tr (addL a b)))]) := by
 by_cases h : vs.length < ws.length
 · have ea := padd_each hw hv (by omega) hk hn2
   have nm := pnorm (isP_add hw hv (by omega)) (by omega) (by simpa using hn2)
   rw [tr_of_eqp (addL_comm b a)] at nm
   obtain ⟨W, hW⟩ : ∃ W, W = (List.range ws.length).map (adV ws b a vs.length) := ⟨_, rfl⟩
   rw [← hW] at ea nm
   obtain ⟨R, hR⟩ : ∃ R, R = PZ (tr (addL a b)) := ⟨_, rfl⟩
   rw [← hR] at nm ⊢
   have hI : (vs.length : Int) < (ws.length : Int) := by omega
   refine spec_at Tryz.func171 ok_zpoly_Add [true] rfl (by simp) ?_
   unfold sc_zpoly_Add
   refine Wr ?_; simp [h, hI]
   refine Ws ?_; simp [h, hI]
   refine WS_cT (by simp [h, hI]) ?_
   refine WS_reg [] ?_; simp [h, hI]
   refine WS_frz 3 3 none ?_
   simp [frzQ]
   refine Wr ?_; simp [h, hI]
   refine callK ea ?_; simp [h, hI]
   refine callK nm ?_; simp [h, hI]
   refine WS_ret ?_; simp [h, hI]
 · have ea := padd_each hv hw (by omega) hk hn
   have nm := pnorm (isP_add hv hw (by omega)) (by omega) (by simpa using hn)
   obtain ⟨W, hW⟩ : ∃ W, W = (List.range vs.length).map (adV vs a b ws.length) := ⟨_, rfl⟩
   rw [← hW] at ea nm
   obtain ⟨R, hR⟩ : ∃ R, R = PZ (tr (addL a b)) := ⟨_, rfl⟩
   rw [← hR] at nm ⊢
   have hI : ¬ (vs.length : Int) < (ws.length : Int) := by omega
   refine spec_at Tryz.func171 ok_zpoly_Add [true] rfl (by simp) ?_
   unfold sc_zpoly_Add
   refine Wr ?_; simp [h, hI]
   refine Ws ?_; simp [h, hI]
   refine WS_frz 3 3 none ?_
   simp [frzQ]
   refine WS_cF (by simp [h, hI]) ?_
   refine WS_skip ?_; simp [h, hI]
   refine Wr ?_; simp [h, hI]
   refine callK ea ?_; simp [h, hI]
   refine callK nm ?_; simp [h, hI]
   refine WS_ret ?_; simp [h, hI]
theorem psub' {k : Nat} {vs ws : List V} {a b : List Int} (hv : IsP k vs a) (hw : IsP k ws b) (hk : k ≤ 2 ^ 25) (hn : vs.length ≤ 2 ^ 40) (hn2 : ws.length ≤ 2 ^ 40) :
 Spec Tryz.prog f_zpoly_Sub [.sl (some 2) vs, .sl (some 2) ws] (· = [.own 28 (some 2) (PZ (tr (addL a (scL (-1) b))))]) :=
 psub (fun us c hu hl => padd (hv.mono (by omega)) hu (by omega) hn (by omega)) hw hk hn2
def EiS (n : Nat) (l : List Int) (f : FuncId) (caps : List V) (g : Nat → V) (S : St) : Prop := ∃ k : Nat, k ≤ n ∧ S.σ 1 = .p (.clo f caps) ∧ S.σ 5 = .own 10 1 0 n ∧ S.σ 11 = .p (.sl none (l.map fun x => V.i .i64 x)) ∧ S.σ 12 = .p (.i .i64 (n : Int)) ∧ S.σ 13 = .p (.i .i64 (k : Int)) ∧
 S.h 10 = ⟨1, some (.arr 28 (some 2) ((List.range k).map g ++ List.replicate (n - k) (.agg [.b false, .sl none []])))⟩
theorem each_iz {l : List Int} (hn : l.length ≤ 2 ^ 40) (f : FuncId) (caps : List V) (g : Nat → V) (hg : ∀ i, i < l.length → ∃ n d, g i = .agg [.b n, .sl none (uL d)])
 (hF : ∀ i (h : i < l.length), Spec Tryz.prog f ([.i .i64 (i : Int), .i .i64 l[i]] ++ caps) (· = [.pure (g i)])) :
 Spec Tryz.prog f_zpoly_each_int_api_Int [.sl none (l.map fun x => V.i .i64 x), .clo f caps] (· = [.own 28 (some 2) ((List.range l.length).map g)]) := by
 obtain ⟨n, hnn⟩ : ∃ n, n = l.length := ⟨_, rfl⟩
 rw [← hnn]
 rw [← hnn] at hn
 refine spec_at Tryz.func127 ok_zpoly_each_int_api_Int [true] rfl (by simp) ?_
 unfold sc_zpoly_each_int_api_Int
 refine Wr ?_; simp [hnn.symm]
 refine Wr ?_; simp [hnn.symm]
 refine ⟨by omega, ?_⟩
 refine Ws ?_; simp [hnn.symm]
 refine WS_block ?_
 refine WS_loop (EiS n l f caps g) (fun S => n - nM 13 S) ⟨0, by omega, rfl, rfl, rfl, rfl, rfl, by simp⟩ ?_
 rintro S ⟨k, hk, s1, s5, s11, s12, s13, h10⟩
 have d13 := nM_eq s13
 by_cases hlt : k < n
 · have hk' : k < l.length := by omega
   have hvk : l[k]? = some l[k] := List.getElem?_eq_getElem hk'
   have hvk2 : (l.map fun x => V.i .i64 x).length = n := by simp [hnn]
   have sp := hF k hk'
   obtain ⟨x, hx⟩ : ∃ x, x = l[k] := ⟨_, rfl⟩
   rw [← hx] at sp hvk
   obtain ⟨b2, d2, hgk⟩ := hg k hk'
   have w1 := i64_succ k (by omega)
   have hltI : (k : Int) < (n : Int) := by omega
   have hset := range_fill g (.agg [.b false, .sl none []]) hlt
   obtain ⟨W, hW⟩ : ∃ W, W = (List.range k).map g ++ List.replicate (n - k) (V.agg [.b false, .sl none []]) := ⟨_, rfl⟩
   have hpl : W.length = n := by rw [hW]; simp; omega
   rw [← hW] at hset h10
   rw [hgk] at sp hset
   refine Wr ?_; simp [s1, s5, s11, s12, s13, h10, hlt, hltI, hk', hvk, w1, hx.symm, hpl, hset]
   refine WS_seq ?_
   refine WS_cT (by simp [s1, s5, s11, s12, s13, h10, hlt, hltI, hk', hvk, w1, hx.symm, hpl, hset]) ?_
   refine WS_skip ?_; simp [s1, s5, s11, s12, s13, h10, hlt, hltI, hk', hvk, w1, hx.symm, hpl, hset]
   refine WS_seq (WS_block (Wr ?_)); simp [s1, s5, s11, s12, s13, h10, hlt, hltI, hk', hvk, w1, hx.symm, hpl, hset]
   refine WS_reg [] ?_; simp [s1, s5, s11, s12, s13, h10, hlt, hltI, hk', hvk, w1, hx.symm, hpl, hset]
   refine callK sp ?_; simp [s1, s5, s11, s12, s13, h10, hlt, hltI, hk', hvk, w1, hx.symm, hpl, hset]
   refine WS_reg [] ?_; simp [s1, s5, s11, s12, s13, h10, hlt, hltI, hk', hvk, w1, hx.symm, hpl, hset]
   refine ⟨⟨k + 1, by omega, by simp [s1], by simp [s5], by simp [s11], by simp [s12], by simp, by simp [hset]⟩, ?_⟩
   show n - nM 13 _ < n - nM 13 S
   rw [d13, nM_eq (i := 13) (n := k + 1) (by simp)]
   omega
 · obtain rfl : k = n := by omega
   have hltI : ¬ (k : Int) < (k : Int) := by omega
   have hfull : (List.range k).map g ++ List.replicate (k - k) (V.agg [.b false, .sl none []]) = (List.range k).map g := by simp
   rw [hfull] at h10
   have hpt : ((List.range k).map g).take k = (List.range k).map g := List.take_of_length_le (by simp)
   obtain ⟨W, hW⟩ : ∃ W, W = (List.range k).map g := ⟨_, rfl⟩
   have hpl : W.length = k := by rw [hW]; simp
   rw [← hW] at h10 hpt ⊢
   refine Wr ?_; simp [s1, s5, s11, s12, s13, h10, hltI, hpl, hpt]
   refine WS_seq ?_
   refine WS_cF (by simp [s1, s5, s11, s12, s13, h10, hltI, hpl, hpt]) ?_
   refine WS_exit ?_; simp [s1, s5, s11, s12, s13, h10, hltI, hpl, hpt]
   refine Wr ?_; simp [s1, s5, s11, s12, s13, h10, hltI, hpl, hpt]
   refine WS_ret ?_; simp [s1, s5, s11, s12, s13, h10, hltI, hpl, hpt]
theorem lift1 (i x : Int) (h1 : -9223372036854775808 ≤ x) (h2 : x ≤ 9223372036854775807) : Spec Tryz.prog f_zpoly_Lift_1 [.i .i64 i, .i .i64 x] (· = [.pure (Z x)]) := by
 have o := zof x h1 h2
 refine spec_at Tryz.func128 ok_zpoly_Lift_1 [] rfl (by simp) ?_
 unfold sc_zpoly_Lift_1
 refine Wr ?_; simp
 refine Wr ?_; simp
 refine callK o ?_; simp
 refine WS_ret ?_; simp
theorem plift {l : List Int} (hl : ∀ x ∈ l, -9223372036854775808 ≤ x ∧ x ≤ 9223372036854775807) (hn : l.length ≤ 2 ^ 40) : Spec Tryz.prog f_zpoly_Lift [.sl none (l.map fun x => V.i .i64 x)] (· = [.own 28 (some 2) (PZ (tr l))]) := by
 have ea := own_plain (each_iz hn f_zpoly_Lift_1 [] (fun i => Z (cf l i)) (fun i _ => ⟨_, _, rfl⟩) (fun i h => by
  rw [cf_lt h]
  have := hl _ (List.getElem_mem h)
  exact lift1 _ _ this.1 this.2))
 have e : (List.range l.length).map (fun i => Z (cf l i)) = PZ l := by
  have := range_cf l l.length (Nat.le_refl _)
  rw [List.take_length] at this
  have h2 := congrArg PZ this
  rw [PZ, List.map_map] at h2
  exact h2
 rw [e] at ea
 have pl : PL 1 l := fun i => by
  by_cases h : i < l.length
  · rw [cf_lt h]
    have := hl _ (List.getElem_mem h)
    exact zlen_small (by omega)
  · rw [cf_ge (by omega), zlen_zero]; omega
 have nm := pnorm (isP_PZ pl) (by omega) (by rw [PZ_length]; exact hn)
 obtain ⟨W, hW⟩ : ∃ W, W = PZ l := ⟨_, rfl⟩
 rw [← hW] at ea nm
 refine spec_at Tryz.func78 ok_zpoly_Lift [true] rfl (by simp) ?_
 unfold sc_zpoly_Lift
 refine Wr ?_; simp
 refine Wr ?_; simp
 refine callK ea ?_; simp
 refine callK nm ?_; simp
 refine WS_ret ?_; simp
theorem pof {l : List Int} (hl : ∀ x ∈ l, -9223372036854775808 ≤ x ∧ x ≤ 9223372036854775807) (hn : l.length ≤ 2 ^ 40) : Spec Tryz.prog f_zpoly_Of [.sl none (l.map fun x => V.i .i64 x)] (· = [.own 28 (some 2) (PZ (tr l))]) := by
 have li := plift hl hn
 refine spec_at Tryz.func27 ok_zpoly_Of [true] rfl (by simp) ?_
 unfold sc_zpoly_Of
 refine Wr ?_; simp
 refine Wr ?_; simp
 refine callK li ?_; simp
 refine WS_ret ?_; simp
def SaS (l : List Int) (S : St) : Prop := ∃ i : Nat, i ≤ l.length ∧ S.σ 0 = .p (.sl (some 2) (PZ l)) ∧ S.σ 1 = .p (.sl (some 2) (PZ l)) ∧ S.σ 5 = .p (.i .i64 (i : Int))
theorem psame (l : List Int) (hp : PL (2 ^ 40) l) (hn : l.length ≤ 2 ^ 40) : Spec Tryz.prog f_ref10_Same [.sl (some 2) (PZ l), .sl (some 2) (PZ l)] (· = [.pure (.b true)]) := by
 have hpl := PZ_length l
 refine spec_at Tryz.func53 ok_ref10_Same [] rfl (by simp) ?_
 unfold sc_ref10_Same
 refine Wr ?_; simp [hpl]
 refine Ws ?_; simp [hpl]
 refine WS_cF (by simp [hpl]) ?_
 refine WS_skip ?_; simp [hpl]
 refine Ws ?_; simp [hpl]
 refine WS_block ?_
 refine WS_loop (SaS l) (fun S => l.length - nM 5 S) ⟨0, by omega, rfl, rfl, rfl⟩ ?_
 rintro S ⟨i, hi, s0, s1, s5⟩
 have d5 := nM_eq s5
 by_cases hlt : i < l.length
 · have hget := PZ_get l i (by omega)
   have sa := zsame (cf l i) (hp i)
   have hltI : (i : Int) < (l.length : Int) := by omega
   have wi := i64_succ i (by omega)
   obtain ⟨O, hO⟩ : ∃ O, O = PZ l := ⟨_, rfl⟩
   have hOl : i < O.length := by rw [hO, hpl]; exact hlt
   have hg2 : O[i] = .agg [.b (zn (cf l i)), .sl none (uL (zl (cf l i)))] := by simp only [hO]; exact hget
   rw [← hO] at hpl s0 s1
   refine Ws ?_; simp [s0, s1, s5, hlt, hltI, hpl, wi, hg2]
   refine WS_cT (by simp [s0, s1, s5, hlt, hltI, hpl, wi, hg2]) ?_
   refine WS_skip ?_; simp [s0, s1, s5, hlt, hltI, hpl, wi, hg2]
   refine WS_seq (WS_block (WS_seq (WS_regD [] ?_))); simp [s0, s1, s5, hlt, hltI, hpl, wi, hg2]
   refine callD sa rfl ?_; simp [s0, s1, s5, hlt, hltI, hpl, wi, hg2]
   refine ⟨rfl, ?_⟩
   refine WS_cF (by simp [s0, s1, s5, hlt, hltI, hpl, wi, hg2]) ?_
   refine WS_skip ?_; simp [s0, s1, s5, hlt, hltI, hpl, wi, hg2]
   refine WS_reg [] ?_; simp [s0, s1, s5, hlt, hltI, hpl, wi, hg2]
   refine ⟨⟨i + 1, by omega, by simp [s0, hO], by simp [s1, hO], by simp⟩, ?_⟩
   show l.length - nM 5 _ < l.length - nM 5 S
   rw [d5, nM_eq (i := 5) (n := i + 1) (by simp)]
   omega
 · obtain rfl : i = l.length := by omega
   have hltI : ¬ (l.length : Int) < (l.length : Int) := by omega
   refine Ws ?_; simp [s0, s1, s5, hpl, hltI]
   refine WS_cF (by simp [s0, s1, s5, hpl, hltI]) ?_
   refine WS_exit ?_; simp [s0, s1, s5, hpl, hltI]
   refine Wr ?_; simp [s0, s1, s5, hpl, hltI]
   refine WS_ret ?_; simp [s0, s1, s5, hpl, hltI]
theorem gcL_snoc (a : List Int) (x : Int) : gcL (a ++ [x]) = Nat.gcd (gcL a) x.natAbs := by
 induction a with
 | nil => simp [gcL]
 | cons y a ih => rw [List.cons_append, gcL, ih, gcL, Nat.gcd_assoc]
theorem gcL_take (t : List Int) (i : Nat) (h : i < t.length) : gcL (t.take (i + 1)) = Nat.gcd (gcL (t.take i)) (cf t i).natAbs := by
 rw [List.take_succ_eq_append_getElem h, gcL_snoc, cf_lt h]
theorem gcL_len {k : Nat} : ∀ {a : List Int}, PL k a → zlen (gcL a : Int) ≤ k
 | [], _ => by rw [gcL]; show zlen 0 ≤ k; rw [zlen_zero]; omega
 | x :: a, h => by
  have hx : zlen x ≤ k := by have := h 0; rwa [cf_zero] at this
  have ih := gcL_len (a := a) (fun i => by have := h (i + 1); rwa [cf_succ] at this)
  have := gcd_len hx ih
  rw [gcL]
  simpa [Int.gcd] using this
theorem pl_take {k : Nat} {l : List Int} (h : PL k l) (n : Nat) : PL k (l.take n) := fun i => by
 rw [cf_take]
 split
 · exact h i
 · rw [zlen_zero]; omega
def CoS (t : List Int) (S : St) : Prop := ∃ i : Nat, i ≤ t.length ∧ S.σ 0 = .p (.sl (some 2) (PZ t)) ∧ S.σ 9 = .p (.sl (some 2) (PZ t)) ∧ S.σ 10 = .p (.i .i64 (t.length : Int)) ∧ S.σ 11 = .p (.i .i64 (i : Int)) ∧ S.σ 3 = .ptr 3 1 0 ∧
 S.h 3 = ⟨1, some (.box 28 [.b (zn (gcL (t.take i) : Int)), .sl none (uL (zl (gcL (t.take i) : Int)))])⟩ ∧ S.σ 2 = .ptr 2 1 0 ∧ S.h 2 = ⟨1, some (.box 28 [.b false, .sl none []])⟩
set_option maxHeartbeats 1000000 in
theorem pcontent {k : Nat} {vs : List V} {l : List Int} (hv : IsP k vs l) (hk : k ≤ 2 ^ 30) (hn : vs.length ≤ 2 ^ 40) : Spec Tryz.prog f_zpoly_Content [.sl (some 2) vs] (· = [.pure (Z (coL l))]) := by
 have nm := own_plain (pnorm hv (by omega) hn)
 have o0 := zof 0 (by omega) (by omega)
 have pl := pl_tr hv.pl
 have hco : coL l = if cf (tr l) ((tr l).length - 1) < 0 then -(gcL (tr l) : Int) else (gcL (tr l) : Int) := by rw [coL, gcL_eqp (cf_tr l)]
 have htl : (tr l).length ≤ 2 ^ 40 := by have := tr_len l; have := hv.len; omega
 rw [hco]
 obtain ⟨t, ht⟩ : ∃ t, t = tr l := ⟨_, rfl⟩
 rw [← ht] at nm pl htl ⊢
 clear hco ht
 have hpl := PZ_length t
 have hget := fun i h => PZ_get t i h
 obtain ⟨O, hO⟩ : ∃ O, O = PZ t := ⟨_, rfl⟩
 have e0 : zn 0 = false := by decide
 rw [← hO] at hpl nm
 simp only [← hO] at hget
 refine spec_at Tryz.func29 ok_zpoly_Content [] rfl (by simp) ?_
 unfold sc_zpoly_Content
 refine Wr ?_; simp [hpl]
 refine Wr ?_; simp [hpl]
 refine callK nm ?_; simp [hpl]
 refine Wr ?_; simp [hpl]
 refine callK o0 ?_; simp [hpl]
 refine Ws ?_; simp [hpl]
 refine WS_block ?_
 refine WS_loop (CoS t) (fun S => t.length - nM 11 S) ⟨0, by omega, by simp [hO], by simp [hO], rfl, rfl, rfl, rfl, rfl, rfl⟩ ?_
 rintro S ⟨i, hi, s0, s9, s10, s11, s3, h3, s2, h2⟩
 rw [← hO] at s0 s9
 have d11 := nM_eq s11
 by_cases hlt : i < t.length
 · have hOl : i < O.length := by omega
   have hg := hget i hOl
   have hltI : (i : Int) < (t.length : Int) := by omega
   have wi := i64_succ i (by omega)
   have gd := zgcd (isZ_of (gcL_len (pl_take pl i))) (isZ_of (pl i)) (by omega)
   have eg : (Int.gcd (gcL (t.take i) : Int) (cf t i) : Int) = (gcL (t.take (i + 1)) : Int) := by rw [gcL_take t i hlt]; simp [Int.gcd]
   rw [eg] at gd
   obtain ⟨a, ha⟩ : ∃ a : Int, a = (gcL (t.take i) : Int) := ⟨_, rfl⟩
   rw [← ha] at gd h3
   obtain ⟨b, hb⟩ : ∃ a : Int, a = (gcL (t.take (i + 1)) : Int) := ⟨_, rfl⟩
   rw [← hb] at gd
   refine Wr ?_; simp [s0, s9, s10, s11, s3, h3, s2, h2, hlt, hltI, hpl, wi, hg]
   refine WS_seq ?_
   refine WS_cT (by simp [s0, s9, s10, s11, s3, h3, s2, h2, hlt, hltI, hpl, wi, hg]) ?_
   refine WS_skip ?_; simp [s0, s9, s10, s11, s3, h3, s2, h2, hlt, hltI, hpl, wi, hg]
   refine WS_seq (WS_block (Wr ?_)); simp [s0, s9, s10, s11, s3, h3, s2, h2, hlt, hltI, hpl, wi, hg]
   refine WS_reg [] ?_; simp [s0, s9, s10, s11, s3, h3, s2, h2, hlt, hltI, hpl, wi, hg]
   refine callK gd ?_; simp [s0, s9, s10, s11, s3, h3, s2, h2, hlt, hltI, hpl, wi, hg]
   refine WS_reg [] ?_; simp [s0, s9, s10, s11, s3, h3, s2, h2, hlt, hltI, hpl, wi, hg]
   refine ⟨⟨i + 1, by omega, by simp [s0, hO], by simp [s9, hO], by simp [s10], by simp, by simp [s3], by simp [hb], by simp [s2], by simp [h2]⟩, ?_⟩
   show t.length - nM 11 _ < t.length - nM 11 S
   rw [d11, nM_eq (i := 11) (n := i + 1) (by simp)]
   omega
 · obtain rfl : i = t.length := by omega
   have hltI : ¬ (t.length : Int) < (t.length : Int) := by omega
   rw [List.take_length] at h3
   have ng := zneg (isZ_of (gcL_len pl)) (by omega)
   obtain ⟨g, hg⟩ : ∃ a : Int, a = (gcL t : Int) := ⟨_, rfl⟩
   rw [← hg] at h3 ng ⊢
   rcases Nat.eq_zero_or_pos t.length with h0 | h0
   · have ht0 : t = [] := List.length_eq_zero_iff.1 h0
     subst ht0
     rw [if_neg (by simp)]
     have hO0 : O = [] := List.length_eq_zero_iff.1 (by rw [hpl]; rfl)
     subst hO0
     refine Wr ?_; simp [s0, s9, s10, s11, s3, h3, s2, h2, hltI]
     refine WS_seq ?_
     refine WS_cF (by simp [s0, s9, s10, s11, s3, h3, s2, h2, hltI]) ?_
     refine WS_exit ?_; simp [s0, s9, s10, s11, s3, h3, s2, h2, hltI]
     refine Ws ?_; simp [s0, s9, s10, s11, s3, h3, s2, h2, hltI]
     refine WS_cF (by simp [s0, s9, s10, s11, s3, h3, s2, h2, hltI]) ?_
     refine WS_skip ?_; simp [s0, s9, s10, s11, s3, h3, s2, h2, hltI]
     refine Wr ?_; simp [s0, s9, s10, s11, s3, h3, s2, h2, hltI]
     refine WS_ret ?_; simp [s0, s9, s10, s11, s3, h3, s2, h2, hltI]
   · have hOl : t.length - 1 < O.length := by omega
     have hgl := hget (t.length - 1) hOl
     have w1 : IntKind.i64.wrap ((t.length : Int) - 1) = (t.length : Int) - 1 := by rw [show (t.length : Int) - 1 = ((t.length - 1 : Nat) : Int) by omega]; exact i64_nat _ (by omega)
     have tn : ((t.length : Int) - 1).toNat = t.length - 1 := by omega
     have hI1 : (1 : Int) ≤ (t.length : Int) := by omega
     have hI2 : (0 : Int) < (t.length : Int) := by omega
     have hI3 : (t.length : Int) - 1 < (t.length : Int) := by omega
     have hI4 : t.length - 1 < t.length := by omega
     have hI5 : (0 : Int) ≤ (t.length : Int) - 1 := by omega
     by_cases hs : cf t (t.length - 1) < 0
     · rw [if_pos hs]
       have hz := zn_true hs
       refine Wr ?_; simp [s0, s9, s10, s11, s3, h3, s2, h2, hltI, hpl, w1, tn, hI1, hI2, hI3, hI4, hI5, h0, hgl, hz]
       refine WS_seq ?_
       refine WS_cF (by simp [s0, s9, s10, s11, s3, h3, s2, h2, hltI, hpl, w1, tn, hI1, hI2, hI3, hI4, hI5, h0, hgl, hz]) ?_
       refine WS_exit ?_; simp [s0, s9, s10, s11, s3, h3, s2, h2, hltI, hpl, w1, tn, hI1, hI2, hI3, hI4, hI5, h0, hgl, hz]
       refine Ws ?_; simp [s0, s9, s10, s11, s3, h3, s2, h2, hltI, hpl, w1, tn, hI1, hI2, hI3, hI4, hI5, h0, hgl, hz]
       refine WS_cT (by simp [s0, s9, s10, s11, s3, h3, s2, h2, hltI, hpl, w1, tn, hI1, hI2, hI3, hI4, hI5, h0, hgl, hz]) ?_
       refine Wr ?_; simp [s0, s9, s10, s11, s3, h3, s2, h2, hltI, hpl, w1, tn, hI1, hI2, hI3, hI4, hI5, h0, hgl, hz]
       refine callK ng ?_; simp [s0, s9, s10, s11, s3, h3, s2, h2, hltI, hpl, w1, tn, hI1, hI2, hI3, hI4, hI5, h0, hgl, hz]
       refine WS_ret ?_; simp [s0, s9, s10, s11, s3, h3, s2, h2, hltI, hpl, w1, tn, hI1, hI2, hI3, hI4, hI5, h0, hgl, hz]
     · rw [if_neg hs]
       have hz := zn_false (show 0 ≤ cf t (t.length - 1) by omega)
       refine Wr ?_; simp [s0, s9, s10, s11, s3, h3, s2, h2, hltI, hpl, w1, tn, hI1, hI2, hI3, hI4, hI5, h0, hgl, hz]
       refine WS_seq ?_
       refine WS_cF (by simp [s0, s9, s10, s11, s3, h3, s2, h2, hltI, hpl, w1, tn, hI1, hI2, hI3, hI4, hI5, h0, hgl, hz]) ?_
       refine WS_exit ?_; simp [s0, s9, s10, s11, s3, h3, s2, h2, hltI, hpl, w1, tn, hI1, hI2, hI3, hI4, hI5, h0, hgl, hz]
       refine Ws ?_; simp [s0, s9, s10, s11, s3, h3, s2, h2, hltI, hpl, w1, tn, hI1, hI2, hI3, hI4, hI5, h0, hgl, hz]
       refine WS_cF (by simp [s0, s9, s10, s11, s3, h3, s2, h2, hltI, hpl, w1, tn, hI1, hI2, hI3, hI4, hI5, h0, hgl, hz]) ?_
       refine WS_skip ?_; simp [s0, s9, s10, s11, s3, h3, s2, h2, hltI, hpl, w1, tn, hI1, hI2, hI3, hI4, hI5, h0, hgl, hz]
       refine Wr ?_; simp [s0, s9, s10, s11, s3, h3, s2, h2, hltI, hpl, w1, tn, hI1, hI2, hI3, hI4, hI5, h0, hgl, hz]
       refine WS_ret ?_; simp [s0, s9, s10, s11, s3, h3, s2, h2, hltI, hpl, w1, tn, hI1, hI2, hI3, hI4, hI5, h0, hgl, hz]
theorem coL_len {k : Nat} {l : List Int} (h : PL k l) : zlen (coL l) ≤ k := by
 have := gcL_len h
 rw [coL]
 split
 · rw [zlen_neg]; exact this
 · exact this
theorem range_pp (l : List Int) : (List.range (tr l).length).map (fun i => cf (tr l) i / coL l) = ppL l := by
 refine ext_cf (by simp [ppL]) fun i => ?_
 rw [cf_range, cf_ppL, ← cf_tr l i]
 split
 · rfl
 · rw [cf_ge (l := tr l) (by omega), Int.zero_ediv]
theorem prim1 {k : Nat} {v : V} {x c : Int} (hv : IsZ k v x) (hc : zlen c ≤ k) (hk : k ≤ 2 ^ 30) (c0 : c ≠ 0) (hd : c ∣ x) (i : Int) : Spec Tryz.prog f_zpoly_Prim_1 [.i .i64 i, v, .ref (some 2) (.agg [.b (zn c), .sl none (uL (zl c))])] (· = [.pure (Z (x / c))]) := by
 have ex := zexact hv (isZ_of hc) (by omega)
 rw [exactR, if_neg c0, if_pos (Int.emod_eq_zero_of_dvd hd)] at ex
 obtain ⟨n, l, rfl, h, hx⟩ := hv
 obtain ⟨y, hy⟩ : ∃ y, y = x / c := ⟨_, rfl⟩
 rw [← hy] at ex ⊢
 refine spec_at Tryz.func73 ok_zpoly_Prim_1 [] rfl (by simp) ?_
 unfold sc_zpoly_Prim_1
 refine Wr ?_; simp
 refine Wr ?_; simp
 refine callK ex ?_; simp
 refine Wr ?_; simp
 refine WS_ret ?_; simp
theorem pprim {k : Nat} {vs : List V} {l : List Int} (hv : IsP k vs l) (hk : k ≤ 2 ^ 30) (hn : vs.length ≤ 2 ^ 40) : Spec Tryz.prog f_zpoly_Prim [.sl (some 2) vs] (· = [.own 28 (some 2) (PZ (ppL l))]) := by
 have nm := own_plain (pnorm hv (by omega) hn)
 have co := pcontent hv hk hn
 have pl := pl_tr hv.pl
 have htl : (tr l).length ≤ 2 ^ 40 := by have := tr_len l; have := hv.len; omega
 have ip := isP_PZ pl
 have ea := each_zz (vs := PZ (tr l)) (by rw [PZ_length]; exact htl) (fun i h => ⟨_, _, PZ_get _ i h⟩) f_zpoly_Prim_1 [.ref (some 2) (.agg [.b (zn (coL l)), .sl none (uL (zl (coL l)))])] (fun i => cf (tr l) i / coL l) (fun i h => by
  have h' : i < (tr l).length := by rwa [PZ_length] at h
  refine prim1 (ip.get i h) (coL_len hv.pl) hk (fun e => ?_) (by rw [cf_tr]; exact coL_dvd l i) _
  rw [coL_zero.1 e] at h'
  simp at h')
 rw [PZ_length, range_pp] at ea
 obtain ⟨c, hc⟩ : ∃ c, c = coL l := ⟨_, rfl⟩
 rw [← hc] at co ea
 obtain ⟨O, hO⟩ : ∃ O, O = PZ (tr l) := ⟨_, rfl⟩
 rw [← hO] at nm ea
 obtain ⟨R, hR⟩ : ∃ R, R = PZ (ppL l) := ⟨_, rfl⟩
 rw [← hR] at ea ⊢
 refine spec_at Tryz.func24 ok_zpoly_Prim [true] rfl (by simp) ?_
 unfold sc_zpoly_Prim
 refine Wr ?_; simp
 refine Wr ?_; simp
 refine callK co ?_; simp
 refine WS_frz 3 3 (some 2) ?_
 simp [frzQ]
 refine Wr ?_; simp
 refine callK nm ?_; simp
 refine callK ea ?_; simp
 refine WS_ret ?_; simp
def smR (w : Nat) (M : List (Bool × List Nat)) : Bool := M.all fun p => decide (p.2.length ≤ w)
def smB (n w : Nat) (Ms : List (List (Bool × List Nat))) : Bool := Ms.all fun M => decide (M.length ≤ n) && smR w M
def mL (Ms : List (List (Bool × List Nat))) : List V := Ms.map fun M => .sl (some 2) (zL M)
theorem smB_false {n w : Nat} {Ms : List (List (Bool × List Nat))} {M : List (Bool × List Nat)} (hM : M ∈ Ms) (h : (decide (M.length ≤ n) && smR w M) = false) : smB n w Ms = false := by
 rw [smB, List.all_eq_false]
 exact ⟨M, hM, by rw [h]; simp⟩
theorem smB_snoc {n w : Nat} {Ms : List (List (Bool × List Nat))} {M : List (Bool × List Nat)} (h : smB n w Ms = true) (h1 : M.length ≤ n) (h2 : smR w M = true) : smB n w (Ms ++ [M]) = true := by
 rw [smB] at h ⊢
 rw [List.all_append, h]
 simp [h1, h2]
theorem smR_snoc {w : Nat} {M : List (Bool × List Nat)} {p : Bool × List Nat} (h : smR w M = true) (h1 : p.2.length ≤ w) : smR w (M ++ [p]) = true := by
 rw [smR] at h ⊢
 rw [List.all_append, h]
 simp [h1]
def SmK (n w : Nat) (Ms : List (List (Bool × List Nat))) (i : Nat) (S : St) : Prop := S.σ 0 = .p (.i .i64 (n : Int)) ∧ S.σ 1 = .p (.i .i64 (w : Int)) ∧ S.σ 2 = .p (.sl none (mL Ms)) ∧ S.σ 7 = .p (.i .i64 (i : Int)) ∧ smB n w (Ms.take i) = true
def SmS (n w : Nat) (Ms : List (List (Bool × List Nat))) (S : St) : Prop := ∃ i : Nat, i ≤ Ms.length ∧ SmK n w Ms i S
def SmJ (n w : Nat) (Ms : List (List (Bool × List Nat))) (i : Nat) (M : List (Bool × List Nat)) (S : St) : Prop := ∃ k : Nat, k ≤ M.length ∧ S.σ 8 = .p (.i .i64 (k : Int)) ∧ smR w (M.take k) = true ∧ SmK n w Ms i S
def RnS (vs : List V) (l : List Int) (S : St) : Prop := ∃ m : Nat, m ≤ vs.length ∧ S.σ 0 = .p (.sl (some 2) vs) ∧ S.σ 3 = .p (.i .i64 (m : Int)) ∧ ∀ i, m ≤ i → cf l i = 0
def RnJ (vs : List V) (l : List Int) (m : Nat) (S : St) : Prop := ∃ i g : Nat, i ≤ m ∧ S.σ 0 = .p (.sl (some 2) vs) ∧ S.σ 3 = .p (.i .i64 (m : Int)) ∧ S.σ 5 = .p (.i .i64 (i : Int)) ∧ S.σ 4 = .own 4 g 0 i ∧ S.h 4 = ⟨g, some (.arr 28 (some 2) (PZ (l.take i)))⟩
set_option maxHeartbeats 1000000 in
theorem rnorm10 {k : Nat} {vs : List V} {l : List Int} (hv : IsP k vs l) (hk : k ≤ 2 ^ 40) (hn : vs.length ≤ 2 ^ 40) : Spec Tryz.prog f_ref10_Norm [.sl (some 2) vs] (· = [.own 28 (some 2) (PZ (tr l))]) := by
 have hlen := hv.len
 refine spec_at Tryz.func14 ok_ref10_Norm [true] rfl (by simp) ?_
 unfold sc_ref10_Norm
 refine Wr ?_; simp
 refine Wr ?_; simp
 refine WS_seq (WS_block ?_)
 refine WS_loop (RnS vs l) (nM 3) ⟨vs.length, Nat.le_refl _, rfl, rfl, fun i hi => cf_ge (by omega)⟩ ?_
 rintro S ⟨m, hm, s0, s3, hz⟩
 have d3 := nM_eq s3
 have rest : (m = 0 ∨ cf l (m - 1) ≠ 0) → ∀ S' : St, S'.σ 0 = .p (.sl (some 2) vs) → S'.σ 3 = .p (.i .i64 (m : Int)) → WS Tryz.prog 35 sc_ref10_Norm.snd.snd.snd (retQ [.tmp 2] [true] (· = [.own 28 (some 2) (PZ (tr l))])) S' := by
  intro h S' t0 t3
  have htr := tr_take (l := l) (m := m) (by omega) hz h
  unfold sc_ref10_Norm
  simp only [SC.snd]
  refine WS_seq (WS_reg [4] ?_); simp [t0, t3]
  refine Ws ?_; simp [t0, t3]
  refine WS_block ?_
  refine WS_loop (RnJ vs l m) (fun S => m - nM 5 S) ⟨0, (S'.h 4).g + 1, by omega, by simp [t0], by simp [t3], by simp, by simp, by simp [PZ]⟩ ?_
  clear t0 t3
  rintro T ⟨i, g, hi, t0, t3, t5, t4, g4⟩
  have d5 := nM_eq t5
  have hil : i ≤ l.length := by omega
  by_cases hlt : i < m
  · have hiv : i < vs.length := by omega
    obtain ⟨b, d, hvi, hzw, hzi⟩ := hv.cell i hiv
    have nm := rnorm (isZ_zv (n := b) hzw) hk
    rw [hzi] at nm
    have hltI : (i : Int) < (m : Int) := by omega
    have wi := i64_succ i (by omega)
    have htk : l.take (i + 1) = l.take i ++ [cf l i] := by rw [List.take_succ_eq_append_getElem (by omega), cf_lt (by omega)]
    have hpl : (PZ (l.take i)).length = i := by rw [PZ_length, List.length_take]; omega
    have hsn := PZ_snoc (l.take i) (cf l i)
    rw [← htk, Z_eq] at hsn
    obtain ⟨O, hO⟩ : ∃ O, O = PZ (l.take i) := ⟨_, rfl⟩
    rw [← hO] at hpl hsn g4
    have hto : O.take i = O := List.take_of_length_le (by omega)
    refine Ws ?_; simp [t0, t3, t5, t4, g4, hlt, hltI, hiv, hvi, wi, hpl, hto]
    refine WS_cT (by simp [t0, t3, t5, t4, g4, hlt, hltI, hiv, hvi, wi, hpl, hto]) ?_
    refine WS_skip ?_; simp [t0, t3, t5, t4, g4, hlt, hltI, hiv, hvi, wi, hpl, hto]
    refine WS_seq (WS_block (WS_reg [] ?_)); simp [t0, t3, t5, t4, g4, hlt, hltI, hiv, hvi, wi, hpl, hto]
    refine callK nm ?_; simp [t0, t3, t5, t4, g4, hlt, hltI, hiv, hvi, wi, hpl, hto]
    refine ⟨by omega, ?_⟩
    refine WS_reg [] ?_; simp [t0, t3, t5, t4, g4, hlt, hltI, hiv, hvi, wi, hpl, hto]
    refine ⟨⟨i + 1, g + 1, by omega, by simp [t0], by simp [t3], by simp, by simp, by simp [hsn]⟩, ?_⟩
    show m - nM 5 _ < m - nM 5 T
    rw [d5, nM_eq (i := 5) (n := i + 1) (by simp)]
    omega
  · obtain rfl : i = m := by omega
    have hltI : ¬ (i : Int) < (i : Int) := by omega
    rw [← htr] at g4
    have hpl : (PZ (tr l)).length = i := by rw [PZ_length, htr, List.length_take]; omega
    obtain ⟨O, hO⟩ : ∃ O, O = PZ (tr l) := ⟨_, rfl⟩
    rw [← hO] at hpl g4 ⊢
    have hto : O.take i = O := List.take_of_length_le (by omega)
    refine Ws ?_; simp [t0, t3, t5, t4, g4, hltI, hpl, hto]
    refine WS_cF (by simp [t0, t3, t5, t4, g4, hltI, hpl, hto]) ?_
    refine WS_exit ?_; simp [t0, t3, t5, t4, g4, hltI, hpl, hto]
    refine Wr ?_; simp [t0, t3, t5, t4, g4, hltI, hpl, hto]
    refine WS_ret ?_; simp [t0, t3, t5, t4, g4, hltI, hpl, hto]
 unfold sc_ref10_Norm at rest
 simp only [SC.snd] at rest
 cases m with
 | zero =>
  refine Ws ?_; simp [s0, s3]
  refine WS_cF (by simp [s0, s3]) ?_
  refine WS_exit ?_; simp [s0, s3]
  refine rest (.inl rfl) _ ?_ ?_
  · simp [s0]
  · simp [s3]
 | succ j =>
  have hj : j < vs.length := by omega
  obtain ⟨b, d, hvj, hzw, hzi⟩ := hv.cell j hj
  have sg := rsign (isZ_zv (n := b) hzw) hk
  rw [hzi] at sg
  have w1 := i64_nat j (by omega)
  have hjI : (j : Int) < (vs.length : Int) := by omega
  by_cases h0 : cf l j = 0
  · rw [h0, Int.sign_zero] at sg
    refine Ws ?_; simp [s0, s3, w1, hj, hjI, hvj]
    refine callK sg ?_; simp [s0, s3, w1, hj, hjI, hvj]
    refine WS_cT (by simp [s0, s3, w1, hj, hjI, hvj]) ?_
    refine WS_skip ?_; simp [s0, s3, w1, hj, hjI, hvj]
    refine WS_block (WS_reg [] ?_); simp [s0, s3, w1, hj, hjI, hvj]
    refine ⟨⟨j, by omega, by simp [s0], by simp, fun i hi => ?_⟩, ?_⟩
    · rcases Nat.lt_or_ge j i with h | h
      · exact hz i h
      · rw [show i = j by omega]; exact h0
    · rw [d3, nM_eq (i := 3) (n := j) (by simp)]
      omega
  · have hs : ¬ (cf l j).sign = 0 := by rw [Int.sign_eq_zero_iff_zero]; exact h0
    refine Ws ?_; simp [s0, s3, w1, hj, hjI, hvj, hs]
    refine callK sg ?_; simp [s0, s3, w1, hj, hjI, hvj, hs]
    refine WS_cF (by simp [s0, s3, w1, hj, hjI, hvj, hs]) ?_
    refine WS_exit ?_; simp [s0, s3, w1, hj, hjI, hvj, hs]
    refine rest (.inr h0) _ ?_ ?_
    · simp [s0]
    · simp [s3]
structure DvI (k : Nat) (a b : List Int) (N R n : Nat) (q r : List Int) : Prop where
 qlen : q.length = N
 rlen : r.length = R
 rst : Rst a b q r
 low : ∀ i, i < n → cf q i = 0
 top : ∀ i, n + b.length ≤ i + 1 → cf r i = 0
 lim : PL (k + (N - n) * (k + 1)) r
 qlim : PL (k + N * (k + 1)) q
structure DvJ (r b : List Int) (n : Nat) (c : Int) (m : Nat) (o : List Int) : Prop where
 len : o.length = r.length
 val : ∀ j, cf o j = cf r j - if n ≤ j ∧ j - n < m then c * cf b (j - n) else 0
theorem dvJ_first (r b : List Int) (n : Nat) (c : Int) : DvJ r b n c 0 r := ⟨rfl, fun j => by rw [if_neg (by omega)]; omega⟩
theorem dvJ_step {r b o : List Int} {n m : Nat} {c : Int} (h : DvJ r b n c m o) (hi : n + m < r.length) : DvJ r b n c (m + 1) (o.set (n + m) (cf o (n + m) - c * cf b m)) := by
 refine ⟨by simp [h.len], fun j => ?_⟩
 rw [cf_set _ _ _ _ (by rw [h.len]; exact hi)]
 by_cases hj : j = n + m
 · subst hj
   rw [if_pos rfl, h.val, if_neg (by omega), if_pos (by omega), show n + m - n = m by omega]; omega
 · rw [if_neg hj, h.val]
   by_cases h1 : n ≤ j ∧ j - n < m
   · rw [if_pos h1, if_pos (by omega)]
   · rw [if_neg h1, if_neg (by omega)]
theorem dvJ_lim {r b o : List Int} {n m L k : Nat} {c : Int} (h : DvJ r b n c m o) (hr : PL L r) (hc : zlen c ≤ L) (hb : PL k b) : PL (L + k + 1) o := fun j => by
 rw [h.val]
 split
 · have h1 := zlen_sub (cf r j) (c * cf b (j - n))
   have h2 := zlen_mul c (cf b (j - n))
   have h3 := hr j
   have h4 := hb (j - n)
   omega
 · rw [Int.sub_zero]; have := hr j; omega
theorem dvJ_end {r b o : List Int} {n : Nat} {c : Int} (h : DvJ r b n c b.length o) (j : Nat) : cf o j = cf r j - if n ≤ j then c * cf b (j - n) else 0 := by
 rw [h.val]
 by_cases h1 : n ≤ j
 · rw [if_pos h1]
   by_cases h2 : j - n < b.length
   · rw [if_pos ⟨h1, h2⟩]
   · rw [if_neg (by omega), cf_ge (l := b) (by omega)]; omega
 · rw [if_neg h1, if_neg (by omega)]
theorem set_moL {q : List Int} {n : Nat} (c : Int) (h : n < q.length) (h0 : cf q n = 0) : Eqp (q.set n c) (addL q (moL n c)) := fun i => by
 rw [cf_set _ _ _ _ h, cf_addL, cf_moL_one]
 by_cases hi : i = n
 · subst hi; rw [if_pos rfl, if_pos rfl, h0]; omega
 · rw [if_neg hi, if_neg hi]; omega
theorem dvI_step {k N R n : Nat} {a b q r o : List Int} (h : DvI k a b N R (n + 1) q r) (hn : n + 1 ≤ N) (hb : tr b = b) (hb0 : b ≠ []) (hk : PL k b) {c : Int} (hm : cf r (n + b.length - 1) % cf b (b.length - 1) = 0) (hc : c = cf r (n + b.length - 1) / cf b (b.length - 1))
 (hcl : zlen c ≤ k + (N - (n + 1)) * (k + 1)) (ho : DvJ r b n c b.length o) : DvI k a b N R n (q.set n c) o := by
 have e := dvJ_end ho
 have hl := List.length_pos_iff.2 hb0
 refine ⟨by simp [h.qlen], by rw [ho.len, h.rlen], ?_, fun i hi => ?_, ?_, ?_, fun i => ?_⟩
 · exact rst_eqp (rst_step h.rst e) (set_moL c (by rw [h.qlen]; omega) (h.low n (by omega))).symm Eqp.rfl'
 · rw [cf_set _ _ _ _ (by rw [h.qlen]; omega), if_neg (by omega)]; exact h.low i (by omega)
 · intro i hi
   have hz : ∀ i, n + (tr b).length ≤ i → cf r i = 0 := fun i hi => h.top i (by rw [hb] at hi; omega)
   have := rst_less (by rw [hb]; exact hb0) hz (by rw [hb]; exact hm) (by rw [hb, ← hc]; exact e) i
   rw [hb] at this
   exact this (by omega)
 · have := dvJ_lim ho h.lim hcl hk
   have e2 : k + (N - (n + 1)) * (k + 1) + k + 1 = k + (N - n) * (k + 1) := by
    rw [show N - n = (N - (n + 1)) + 1 by omega, Nat.succ_mul]; omega
   rwa [e2] at this
 · rw [cf_set _ _ _ _ (by rw [h.qlen]; omega)]
   split
   · have := Nat.mul_le_mul_right (k + 1) (show N - (n + 1) ≤ N by omega)
     omega
   · exact h.qlim i
noncomputable def pdivR (a b : List Int) : List RV := if tr b = [] then [.own 28 (some 2) [], .pure (.i .i64 3)] else match pq a b with
 | some q => [.own 28 (some 2) (PZ q), .pure (.i .i64 0)]
 | none => [.own 28 (some 2) [], .pure (.i .i64 4)]
theorem pdivR_eqp {a a' b b' : List Int} (h : Eqp a a') (g : Eqp b b') : pdivR a b = pdivR a' b' := by
 rw [pdivR, pdivR, tr_of_eqp g]
 by_cases hb : tr b' = []
 · rw [if_pos hb, if_pos hb]
 · have hb1 : tr b ≠ [] := by rw [tr_of_eqp g]; exact hb
   rw [if_neg hb, if_neg hb]
   have e : pq a b = pq a' b' := by
    cases h1 : pq a' b' with
    | none => exact pq_none fun q hq => pq_noneinv h1 q (h.symm.trans (hq.trans (eqp_mulL_right g q)))
    | some q =>
     obtain ⟨h2, h3⟩ := pq_inv h1
     rw [pq_some hb1 (h.trans (h2.trans (eqp_mulL_right g.symm q))), h3]
   rw [e]
def DiC (a b : List Int) (N : Nat) (q r : List Int) (n : Nat) (S : St) : Prop := S.σ 1 = .p (.sl (some 2) (PZ b)) ∧ S.σ 6 = .own 14 1 0 a.length ∧ S.h 14 = ⟨1, some (.arr 28 (some 2) (PZ r))⟩ ∧ S.σ 7 = .own 37 1 0 N ∧ S.h 37 = ⟨1, some (.arr 28 (some 2) (PZ q))⟩ ∧ S.σ 8 = .p (.i .i64 ((n : Int) - 1))
def DiS (k : Nat) (a b : List Int) (N : Nat) (S : St) : Prop := ∃ (n : Nat) (q r : List Int), n ≤ N ∧ DvI k a b N a.length n q r ∧ DiC a b N q r n S
def DiJ (a b : List Int) (N : Nat) (q r : List Int) (n : Nat) (c : Int) (S : St) : Prop := ∃ (m g : Nat) (o : List Int), m ≤ b.length ∧ DvJ r b n c m o ∧ S.σ 70 = .p (.sl (some 2) (PZ b)) ∧ S.σ 71 = .p (.i .i64 (b.length : Int)) ∧ S.σ 72 = .p (.i .i64 (m : Int)) ∧ S.σ 9 = .ptr 9 g 0 ∧ S.h 9 = ⟨g, some (.box 28 [.b (zn c), .sl none (uL (zl c))])⟩ ∧ DiC a b N q o (n + 1) S
set_option maxHeartbeats 1000000 in
theorem pdiv {k : Nat} {vs ws : List V} {a b : List Int} (hv : IsP k vs a) (hw : IsP k ws b) (hk : k ≤ 2 ^ 20) (hn : vs.length ≤ 2 ^ 20) (hn2 : ws.length ≤ 2 ^ 20) (hb : vs.length * (k + 1) ≤ 2 ^ 24) :
 Spec Tryz.prog f_zpoly_Div [.sl (some 2) vs, .sl (some 2) ws] (· = pdivR a b) := by
 have nm1 := pnorm hv (by omega) (by omega)
 have nm2 := own_plain (pnorm hw (by omega) (by omega))
 have pla := pl_tr hv.pl
 have plb := pl_tr hw.pl
 have tla : (tr a).length ≤ vs.length := by have := tr_len a; have := hv.len; omega
 have tlb : (tr b).length ≤ ws.length := by have := tr_len b; have := hw.len; omega
 rw [pdivR_eqp (cf_tr a).symm (cf_tr b).symm]
 have ta := tr_tr a
 have tb := tr_tr b
 obtain ⟨x, hx⟩ : ∃ x, x = tr a := ⟨_, rfl⟩
 obtain ⟨y, hy⟩ : ∃ x, x = tr b := ⟨_, rfl⟩
 rw [← hx] at nm1 pla tla ta ⊢
 rw [← hy] at nm2 plb tlb tb ⊢
 clear hx hy
 have hxl := PZ_length x
 have hyl := PZ_length y
 rw [pdivR, tb]
 refine spec_at Tryz.func144 ok_zpoly_Div [true] rfl (by simp) ?_
 unfold sc_zpoly_Div
 by_cases hy0 : y = []
 · subst hy0
   rw [if_pos rfl]
   refine Wr ?_; simp [PZ, List.map_nil]
   refine Wr ?_; simp [PZ, List.map_nil]
   refine callK nm1 ?_; simp [PZ, List.map_nil]
   refine callK nm2 ?_; simp [PZ, List.map_nil]
   refine Ws ?_; simp [PZ, List.map_nil]
   refine WS_cT (by simp [PZ, List.map_nil]) ?_
   refine WS_seq (WS_reg [4] ?_); simp [PZ, List.map_nil]
   refine WS_ret ?_; simp [PZ, List.map_nil]
 rw [if_neg hy0]
 have yl := List.length_pos_iff.2 hy0
 have hyI : ¬ (y.length : Int) = 0 := by omega
 have hyN : ¬ y.length = 0 := by omega
 have hyE : ((y.length : Int) == 0) = false := by simpa using hyI
 have rest : (x = [] ∨ y.length ≤ x.length) → ∀ S' : St, S'.σ 1 = .p (.sl (some 2) (PZ y)) → S'.σ 6 = .own 14 1 0 x.length → S'.h 14 = ⟨1, some (.arr 28 (some 2) (PZ x))⟩ → S'.h 37 = ⟨0, none⟩ → WS Tryz.prog 99 sc_zpoly_Div.snd.snd.snd.snd (retQ [.tmp 4, .tmp 5] [true] (· = match pq x y with
  | some q => [.own 28 (some 2) (PZ q), .pure (.i .i64 0)]
  | none => [.own 28 (some 2) [], .pure (.i .i64 4)])) S' := by
  intro hc S' s1 s6 h14 h37
  unfold sc_zpoly_Div
  simp only [SC.snd]
  obtain ⟨N, hN⟩ : ∃ N, N = x.length + 1 - y.length := ⟨_, rfl⟩
  have hNk : N * (k + 1) ≤ 2 ^ 24 := Nat.le_trans (Nat.mul_le_mul_right _ (show N ≤ vs.length by omega)) hb
  have w1 : IntKind.i64.wrap ((x.length : Int) - (y.length : Int)) = (x.length : Int) - (y.length : Int) := by
   rcases hc with rfl | h
   · exact i64_int _ (by simp; omega) (by simp)
   · rw [show (x.length : Int) - (y.length : Int) = ((x.length - y.length : Nat) : Int) by omega]; exact i64_nat _ (by omega)
  have w2 : IntKind.i64.wrap ((x.length : Int) - (y.length : Int) + 1) = (x.length : Int) - (y.length : Int) + 1 := i64_int _ (by omega) (by omega)
  have w3 : (if (x.length : Int) - (y.length : Int) + 1 < 0 then 0 else (x.length : Int) - (y.length : Int) + 1) = (N : Int) := by split <;> omega
  have w4 : IntKind.i64.wrap ((N : Int) - 1) = (N : Int) - 1 := i64_int _ (by omega) (by omega)
  refine Wr ?_; simp [s1, s6, h14, h37, hxl, hyl, w1, w2, w3, w4]
  refine ⟨by omega, ?_⟩
  refine Ws ?_; simp [s1, s6, h14, h37, hxl, hyl, w1, w2, w3, w4]
  refine WS_block ?_
  have hz : List.replicate N (V.agg [.b false, .sl none []]) = PZ (List.replicate N 0) := PZ_replicate N
  have hfirst : DvI k x y N x.length N (List.replicate N 0) x := by
   refine ⟨by simp, rfl, fun i => ?_, fun i _ => cf_replicate _ _, fun i hi => ?_, fun i => by have := pla i; omega, fun i => by rw [cf_replicate, zlen_zero]; omega⟩
   · rw [cf_addL, mulL_zeros (fun i => cf_replicate _ _)]; omega
   · rcases hc with rfl | h
     · simp
     · exact cf_ge (by omega)
  refine WS_loop (DiS k x y N) (dnM 8) ⟨N, List.replicate N 0, x, by omega, hfirst, by simp [s1], by simp [s6], by simp [h14], by simp [h37], by simp [h37, hz], by simp⟩ ?_
  clear s1 s6 h14 h37 w1 w2 w3 w4 hz hfirst S'
  rintro S ⟨n, q, r, hn, hD, s1, s6, h14, s7, h37, s8⟩
  have d8 := dnM_eq s8
  have hrl : (PZ r).length = x.length := by rw [PZ_length, hD.rlen]
  have hql : (PZ q).length = N := by rw [PZ_length, hD.qlen]
  cases n with
  | zero =>
   have hrx := hD.rst
   have hrz : ∀ i, y.length ≤ i + 1 → cf r i = 0 := fun i hi => hD.top i (by omega)
   have plr : PL (2 ^ 26) r := fun i => by
    have h1 := hD.lim i
    rw [Nat.sub_zero] at h1
    omega
   have plq : PL (2 ^ 26) q := fun i => by
    have h1 := hD.qlim i
    omega
   have nr := pnorm (isP_PZ plr) (by omega) (by rw [hrl]; omega)
   have nq := pnorm (isP_PZ plq) (by omega) (by rw [hql]; omega)
   have nr2 := own_plain nr
   have trl := PZ_length (tr r)
   have hcase : ((tr r).length = 0 ∧ pq x y = some (tr q)) ∨ (0 < (tr r).length ∧ pq x y = none) := by
    by_cases h0 : tr r = []
    · left; rw [h0]; exact ⟨rfl, rst_end (by rw [tb]; exact hy0) hrx h0⟩
    · right
      have hlp := List.length_pos_iff.2 h0
      refine ⟨hlp, rst_none (by rw [tb]; exact hy0) hrx h0 (.inl ?_)⟩
      rw [tb]
      have hl := tr_last r h0
      rw [cf_tr] at hl
      rcases Nat.lt_or_ge (tr r).length y.length with h | h
      · exact h
      · exact absurd (hrz _ (by omega)) hl
   obtain ⟨O, hO⟩ : ∃ O, O = PZ r := ⟨_, rfl⟩
   rw [← hO] at hrl h14 nr2
   have htO : O.take x.length = O := List.take_of_length_le (by omega)
   obtain ⟨W, hW⟩ : ∃ O, O = PZ q := ⟨_, rfl⟩
   rw [← hW] at hql h37 nq
   have htW : W.take N = W := List.take_of_length_le (by omega)
   rcases hcase with ⟨h0, hp⟩ | ⟨h0, hp⟩
   · have h0I : ((tr r).length : Int) = 0 := by omega
     rw [hp]
     refine Ws ?_; simp [s1, s6, h14, s7, h37, s8, hrl, hql, trl, h0, h0I]
     refine WS_cF (by simp [s1, s6, h14, s7, h37, s8, hrl, hql, trl, h0, h0I]) ?_
     refine WS_exit ?_; simp [s1, s6, h14, s7, h37, s8, hrl, hql, trl, h0, h0I]
     refine WS_frz 14 6 none ?_
     simp [frzQ, s6, h14, hrl, htO]
     refine WS_frz 37 7 none ?_
     simp [frzQ, s7, h37, hql, htW]
     refine Ws ?_; simp [s1, s6, h14, s7, h37, s8, hrl, hql, trl, h0, h0I]
     refine callK nr2 ?_; simp [s1, s6, h14, s7, h37, s8, hrl, hql, trl, h0, h0I]
     refine WS_cF (by simp [s1, s6, h14, s7, h37, s8, hrl, hql, trl, h0, h0I]) ?_
     refine WS_skip ?_; simp [s1, s6, h14, s7, h37, s8, hrl, hql, trl, h0, h0I]
     refine Wr ?_; simp [s1, s6, h14, s7, h37, s8, hrl, hql, trl, h0, h0I]
     refine callK nq ?_; simp [s1, s6, h14, s7, h37, s8, hrl, hql, trl, h0, h0I]
     refine WS_ret ?_; simp [s1, s6, h14, s7, h37, s8, hrl, hql, trl, h0, h0I]
   · have h0I : (0 : Int) < ((tr r).length : Int) := by omega
     rw [hp]
     refine Ws ?_; simp [s1, s6, h14, s7, h37, s8, hrl, hql, trl, h0, h0I]
     refine WS_cF (by simp [s1, s6, h14, s7, h37, s8, hrl, hql, trl, h0, h0I]) ?_
     refine WS_exit ?_; simp [s1, s6, h14, s7, h37, s8, hrl, hql, trl, h0, h0I]
     refine WS_frz 14 6 none ?_
     simp [frzQ, s6, h14, hrl, htO]
     refine WS_frz 37 7 none ?_
     simp [frzQ, s7, h37, hql, htW]
     refine Ws ?_; simp [s1, s6, h14, s7, h37, s8, hrl, hql, trl, h0, h0I]
     refine callK nr2 ?_; simp [s1, s6, h14, s7, h37, s8, hrl, hql, trl, h0, h0I]
     refine WS_cT (by simp [s1, s6, h14, s7, h37, s8, hrl, hql, trl, h0, h0I]) ?_
     refine WS_seq (WS_reg [4] ?_); simp [s1, s6, h14, s7, h37, s8, hrl, hql, trl, h0, h0I]
     refine WS_ret ?_; simp [s1, s6, h14, s7, h37, s8, hrl, hql, trl, h0, h0I]
  | succ n =>
   have e1 : ((n + 1 : Nat) : Int) - 1 = (n : Int) := by omega
   rw [e1] at s8
   obtain ⟨L, hL⟩ : ∃ L, L = k + (N - (n + 1)) * (k + 1) := ⟨_, rfl⟩
   have hlim := hD.lim
   rw [← hL] at hlim
   have hL2 : L ≤ 2 ^ 25 := by
    have := Nat.mul_le_mul_right (k + 1) (show N - (n + 1) ≤ N by omega)
    omega
   have hxy : y.length ≤ x.length := by omega
   have hp1 : n + y.length - 1 < x.length := by omega
   have hp2 : y.length - 1 < y.length := by omega
   have w1 : IntKind.i64.wrap ((n : Int) + (y.length : Int)) = (n : Int) + (y.length : Int) := i64_int _ (by omega) (by omega)
   have w2 : IntKind.i64.wrap ((n : Int) + (y.length : Int) - 1) = (n : Int) + (y.length : Int) - 1 := i64_int _ (by omega) (by omega)
   have w3 : IntKind.i64.wrap ((y.length : Int) - 1) = (y.length : Int) - 1 := i64_int _ (by omega) (by omega)
   have t1 : ((n : Int) + (y.length : Int) - 1).toNat = n + y.length - 1 := by omega
   have t2 : ((y.length : Int) - 1).toNat = y.length - 1 := by omega
   have b1 : 0 ≤ (n : Int) + (y.length : Int) - 1 := by omega
   have b2 : (n : Int) + (y.length : Int) - 1 < (x.length : Int) := by omega
   have b3 : 0 ≤ (y.length : Int) - 1 := by omega
   have b4 : (y.length : Int) - 1 < (y.length : Int) := by omega
   have yx0 : cf y (y.length - 1) ≠ 0 := by have := tr_last y (by rw [tb]; exact hy0); rwa [tb] at this
   have hg1 := PZ_get r (n + y.length - 1) (by omega)
   have hg2 := PZ_get y (y.length - 1) (by omega)
   have ex := zexact (isZ_of (x := cf r (n + y.length - 1)) (k := 2 ^ 26) (by have := hlim (n + y.length - 1); omega)) (isZ_of (x := cf y (y.length - 1)) (k := 2 ^ 26) (by have := plb (y.length - 1); omega)) (by omega)
   rw [exactR, if_neg yx0] at ex
   have hplace := rst_place (n := n) (by rw [tb]; exact hy0) hD.rst (fun i hi => hD.top i (by rw [tb] at hi; omega))
   rw [tb] at hplace
   obtain ⟨O, hO⟩ : ∃ O, O = PZ r := ⟨_, rfl⟩
   simp only [← hO] at hg1
   rw [← hO] at hrl h14
   obtain ⟨Y, hY⟩ : ∃ O, O = PZ y := ⟨_, rfl⟩
   simp only [← hY] at hg2
   rw [← hY] at hyl s1
   obtain ⟨W, hW⟩ : ∃ O, O = PZ q := ⟨_, rfl⟩
   rw [← hW] at hql h37
   by_cases hm : cf r (n + y.length - 1) % cf y (y.length - 1) = 0
   · rw [if_pos hm] at ex
     obtain ⟨c, hc0⟩ : ∃ c, c = cf r (n + y.length - 1) / cf y (y.length - 1) := ⟨_, rfl⟩
     have hcl : zlen c ≤ L := by
      refine Nat.le_trans (zlen_le ?_) (hlim (n + y.length - 1))
      have := Int.ediv_mul_cancel (Int.dvd_of_emod_eq_zero hm)
      rw [← hc0] at this
      rw [← this, Int.natAbs_mul]
      exact Nat.le_mul_of_pos_right _ (Int.natAbs_pos.2 yx0)
     rw [← hc0] at ex
     have hset := PZ_set q n c
     rw [← hW, Z_eq] at hset
     obtain ⟨q', hq'⟩ : ∃ q', q' = q.set n c := ⟨_, rfl⟩
     rw [← hq'] at hset
     have hq'l : (PZ q').length = N := by rw [PZ_length, hq']; simpa using hD.qlen
     have hnN : n < N := by omega
     have hnI : (n : Int) < (N : Int) := by omega
     refine Ws ?_; simp [s1, s6, h14, s7, h37, s8, hrl, hql, hyl, w1, w2, w3, t1, t2, b1, b2, b3, b4, hp1, hp2, hg1, hg2, hnN, hnI, hset]
     refine WS_cT (by simp [s1, s6, h14, s7, h37, s8, hrl, hql, hyl, w1, w2, w3, t1, t2, b1, b2, b3, b4, hp1, hp2, hg1, hg2, hnN, hnI, hset]) ?_
     refine WS_skip ?_; simp [s1, s6, h14, s7, h37, s8, hrl, hql, hyl, w1, w2, w3, t1, t2, b1, b2, b3, b4, hp1, hp2, hg1, hg2, hnN, hnI, hset]
     refine WS_seq (WS_block (WS_seq (WS_regD [] ?_))); simp [s1, s6, h14, s7, h37, s8, hrl, hql, hyl, w1, w2, w3, t1, t2, b1, b2, b3, b4, hp1, hp2, hg1, hg2, hnN, hnI, hset]
     refine ⟨by omega, by omega, ?_⟩
     refine callD ex rfl ?_; simp [s1, s6, h14, s7, h37, s8, hrl, hql, hyl, w1, w2, w3, t1, t2, b1, b2, b3, b4, hp1, hp2, hg1, hg2, hnN, hnI, hset]
     refine ⟨rfl, ?_⟩
     refine Ws ?_; simp [s1, s6, h14, s7, h37, s8, hrl, hql, hyl, w1, w2, w3, t1, t2, b1, b2, b3, b4, hp1, hp2, hg1, hg2, hnN, hnI, hset]
     refine WS_cF (by simp [s1, s6, h14, s7, h37, s8, hrl, hql, hyl, w1, w2, w3, t1, t2, b1, b2, b3, b4, hp1, hp2, hg1, hg2, hnN, hnI, hset]) ?_
     refine WS_skip ?_; simp [s1, s6, h14, s7, h37, s8, hrl, hql, hyl, w1, w2, w3, t1, t2, b1, b2, b3, b4, hp1, hp2, hg1, hg2, hnN, hnI, hset]
     refine Wr ?_; simp [s1, s6, h14, s7, h37, s8, hrl, hql, hyl, w1, w2, w3, t1, t2, b1, b2, b3, b4, hp1, hp2, hg1, hg2, hnN, hnI, hset]
     refine Wr ?_; simp [s1, s6, h14, s7, h37, s8, hrl, hql, hyl, w1, w2, w3, t1, t2, b1, b2, b3, b4, hp1, hp2, hg1, hg2, hnN, hnI, hset]
     refine WS_block ?_
     refine WS_loop (DiJ x y N q' r n c) (fun S => y.length - nM 72 S) ⟨0, (S.h 9).g + 1, r, by omega, dvJ_first _ _ _ _, by simp [s1, hY], by simp [hyl], by simp, by simp, by simp, by simp [s1, hY], by simp [s6], by simp [h14, hO], by simp [s7], by simp [hset], by simp [s8]⟩ ?_
     clear s1 s6 h14 s7 h37 s8 hrl hql hyl hg1 hg2 hO hY hW ex hplace O Y W w1 w2 w3 t1 t2 b1 b2 b3 b4 hset
     rintro S' ⟨m, g, o, hmy, hJ, s70, s71, s72, s9, h9, s1, s6, h14, s7, h37, s8⟩
     have e2 : ((n + 1 : Nat) : Int) - 1 = (n : Int) := by omega
     rw [e2] at s8
     have d72 := nM_eq s72
     have hyl := PZ_length y
     have hol : (PZ o).length = x.length := by rw [PZ_length, hJ.len, hD.rlen]
     have pol := dvJ_lim hJ hlim hcl plb
     by_cases hlt : m < y.length
     · have hltI : (m : Int) < (y.length : Int) := by omega
       have v1 : IntKind.i64.wrap ((n : Int) + (m : Int)) = (n : Int) + (m : Int) := i64_int _ (by omega) (by omega)
       have v2 := i64_succ m (by omega)
       have v3 : ((n : Int) + (m : Int)).toNat = n + m := by omega
       have v4 : (0 : Int) ≤ (n : Int) + (m : Int) := by omega
       have v5 : (n : Int) + (m : Int) < (x.length : Int) := by omega
       have v6 : n + m < x.length := by omega
       have gy := PZ_get y m (by omega)
       have go := PZ_get o (n + m) (by omega)
       have mu := zmul (isZ_of (x := c) (k := 2 ^ 26) (by omega)) (isZ_of (x := cf y m) (k := 2 ^ 26) (by have := plb m; omega)) (by omega)
       have ml := zlen_mul c (cf y m)
       have sb := zsub (isZ_of (x := cf o (n + m)) (k := 2 ^ 27) (by have := pol (n + m); omega)) (isZ_of (x := c * cf y m) (k := 2 ^ 27) (by have := plb m; omega)) (by omega)
       have hst := dvJ_step hJ (by rw [hD.rlen]; exact v6)
       have hset := PZ_set o (n + m) (cf o (n + m) - c * cf y m)
       rw [Z_eq] at hset
       obtain ⟨p, hp⟩ : ∃ p, p = c * cf y m := ⟨_, rfl⟩
       rw [← hp] at mu sb hst hset
       obtain ⟨u, hu⟩ : ∃ u, u = cf o (n + m) - p := ⟨_, rfl⟩
       rw [← hu] at sb hst hset
       obtain ⟨O, hO⟩ : ∃ O, O = PZ o := ⟨_, rfl⟩
       simp only [← hO] at go
       rw [← hO] at hol h14 hset
       obtain ⟨Y, hY⟩ : ∃ O, O = PZ y := ⟨_, rfl⟩
       simp only [← hY] at gy
       rw [← hY] at hyl s1 s70
       refine Wr ?_; simp [s1, s6, h14, s7, h37, s8, s70, s71, s72, s9, h9, hol, hyl, hlt, hltI, v1, v2, v3, v4, v5, v6, gy, go, hset]
       refine WS_seq ?_
       refine WS_cT (by simp [s1, s6, h14, s7, h37, s8, s70, s71, s72, s9, h9, hol, hyl, hlt, hltI, v1, v2, v3, v4, v5, v6, gy, go, hset]) ?_
       refine WS_skip ?_; simp [s1, s6, h14, s7, h37, s8, s70, s71, s72, s9, h9, hol, hyl, hlt, hltI, v1, v2, v3, v4, v5, v6, gy, go, hset]
       refine WS_seq (WS_block (Wr ?_)); simp [s1, s6, h14, s7, h37, s8, s70, s71, s72, s9, h9, hol, hyl, hlt, hltI, v1, v2, v3, v4, v5, v6, gy, go, hset]
       refine WS_regD [] ?_; simp [s1, s6, h14, s7, h37, s8, s70, s71, s72, s9, h9, hol, hyl, hlt, hltI, v1, v2, v3, v4, v5, v6, gy, go, hset]
       refine callD mu rfl ?_; simp [s1, s6, h14, s7, h37, s8, s70, s71, s72, s9, h9, hol, hyl, hlt, hltI, v1, v2, v3, v4, v5, v6, gy, go, hset]
       refine callD sb rfl ?_; simp [s1, s6, h14, s7, h37, s8, s70, s71, s72, s9, h9, hol, hyl, hlt, hltI, v1, v2, v3, v4, v5, v6, gy, go, hset]
       refine ⟨rfl, ?_⟩
       refine WS_reg [] ?_; simp [s1, s6, h14, s7, h37, s8, s70, s71, s72, s9, h9, hol, hyl, hlt, hltI, v1, v2, v3, v4, v5, v6, gy, go, hset]
       refine ⟨⟨m + 1, g, o.set (n + m) u, by omega, hst, by simp [s70, hY], by simp [s71], by simp, by simp [s9], by simp [h9], by simp [s1, hY], by simp [s6], by simp [hset], by simp [s7], by simp [h37], by simp [s8]⟩, ?_⟩
       show y.length - nM 72 _ < y.length - nM 72 S'
       rw [d72, nM_eq (i := 72) (n := m + 1) (by simp)]
       omega
     · obtain rfl : m = y.length := by omega
       have hltI : ¬ (y.length : Int) < (y.length : Int) := by omega
       have v2 : IntKind.i64.wrap ((n : Int) - 1) = (n : Int) - 1 := i64_int _ (by omega) (by omega)
       have hnx := dvI_step hD hn tb hy0 plb hm hc0 (by rw [← hL]; exact hcl) hJ
       rw [← hq'] at hnx
       clear pol hcl yx0 hm hL2 hlim
       refine Wr ?_; simp [s1, s6, h14, s7, h37, s8, s70, s71, s72, s9, h9, hltI, v2]
       refine WS_seq ?_
       refine WS_cF (by simp [s1, s6, h14, s7, h37, s8, s70, s71, s72, s9, h9, hltI, v2]) ?_
       refine WS_exit ?_; simp [s1, s6, h14, s7, h37, s8, s70, s71, s72, s9, h9, hltI, v2]
       refine WS_reg [] ?_; simp [s1, s6, h14, s7, h37, s8, s70, s71, s72, s9, h9, hltI, v2]
       refine ⟨⟨n, q', o, by omega, hnx, by simp [s1], by simp [s6], by simp [h14], by simp [s7], by simp [h37], by simp⟩, ?_⟩
       rw [d8, dnM_eq (i := 8) (k := n) (by simp)]
       omega
   · rw [if_neg hm] at ex
     rw [hplace hm]
     refine Ws ?_; simp [s1, s6, h14, s7, h37, s8, hrl, hql, hyl, w1, w2, w3, t1, t2, b1, b2, b3, b4, hp1, hp2, hg1, hg2]
     refine WS_cT (by simp [s1, s6, h14, s7, h37, s8, hrl, hql, hyl, w1, w2, w3, t1, t2, b1, b2, b3, b4, hp1, hp2, hg1, hg2]) ?_
     refine WS_skip ?_; simp [s1, s6, h14, s7, h37, s8, hrl, hql, hyl, w1, w2, w3, t1, t2, b1, b2, b3, b4, hp1, hp2, hg1, hg2]
     refine WS_seq (WS_block (WS_seq (WS_regD [] ?_))); simp [s1, s6, h14, s7, h37, s8, hrl, hql, hyl, w1, w2, w3, t1, t2, b1, b2, b3, b4, hp1, hp2, hg1, hg2]
     refine ⟨by omega, by omega, ?_⟩
     refine callD ex rfl ?_; simp [s1, s6, h14, s7, h37, s8, hrl, hql, hyl, w1, w2, w3, t1, t2, b1, b2, b3, b4, hp1, hp2, hg1, hg2]
     refine ⟨rfl, ?_⟩
     refine Ws ?_; simp [s1, s6, h14, s7, h37, s8, hrl, hql, hyl, w1, w2, w3, t1, t2, b1, b2, b3, b4, hp1, hp2, hg1, hg2]
     refine WS_cT (by simp [s1, s6, h14, s7, h37, s8, hrl, hql, hyl, w1, w2, w3, t1, t2, b1, b2, b3, b4, hp1, hp2, hg1, hg2]) ?_
     refine WS_seq (WS_reg [4] ?_); simp [s1, s6, h14, s7, h37, s8, hrl, hql, hyl, w1, w2, w3, t1, t2, b1, b2, b3, b4, hp1, hp2, hg1, hg2]
     refine WS_ret ?_; simp [s1, s6, h14, s7, h37, s8, hrl, hql, hyl, w1, w2, w3, t1, t2, b1, b2, b3, b4, hp1, hp2, hg1, hg2]
 unfold sc_zpoly_Div at rest
 simp only [SC.snd] at rest
 by_cases hsh : 0 < x.length ∧ x.length < y.length
 · obtain ⟨h1, h2⟩ := hsh
   have h1I : (0 : Int) < (x.length : Int) := by omega
   have h2I : (x.length : Int) < (y.length : Int) := by omega
   have hno : pq x y = none := by
    refine rst_none (q := []) (r := x) (by rw [tb]; exact hy0) (fun i => by rw [mulL, addL]) (by rw [ta]; exact List.length_pos_iff.1 h1) (.inl (by rw [ta, tb]; exact h2))
   rw [hno]
   refine Wr ?_; simp [hxl, hyl, hyE, hyI, hyN, h1, h1I, h2, h2I, yl]
   refine Wr ?_; simp [hxl, hyl, hyE, hyI, hyN, h1, h1I, h2, h2I, yl]
   refine callK nm1 ?_; simp [hxl, hyl, hyE, hyI, hyN, h1, h1I, h2, h2I, yl]
   refine callK nm2 ?_; simp [hxl, hyl, hyE, hyI, hyN, h1, h1I, h2, h2I, yl]
   refine Ws ?_; simp [hxl, hyl, hyE, hyI, hyN, h1, h1I, h2, h2I, yl]
   refine WS_cF (by simp [hxl, hyl, hyE, hyI, hyN, h1, h1I, h2, h2I, yl]) ?_
   refine WS_skip ?_; simp [hxl, hyl, hyE, hyI, hyN, h1, h1I, h2, h2I, yl]
   refine Ws ?_; simp [hxl, hyl, hyE, hyI, hyN, h1, h1I, h2, h2I, yl]
   refine WS_cT (by simp [hxl, hyl, hyE, hyI, hyN, h1, h1I, h2, h2I, yl]) ?_
   refine WS_seq (WS_reg [4] ?_); simp [hxl, hyl, hyE, hyI, hyN, h1, h1I, h2, h2I, yl]
   refine WS_ret ?_; simp [hxl, hyl, hyE, hyI, hyN, h1, h1I, h2, h2I, yl]
 by_cases hx0 : x = []
 · subst hx0
   refine Wr ?_; simp [hxl, hyl, hyE, hyI, hyN, yl]
   refine Wr ?_; simp [hxl, hyl, hyE, hyI, hyN, yl]
   refine callK nm1 ?_; simp [hxl, hyl, hyE, hyI, hyN, yl]
   refine callK nm2 ?_; simp [hxl, hyl, hyE, hyI, hyN, yl]
   refine Ws ?_; simp [hxl, hyl, hyE, hyI, hyN, yl]
   refine WS_cF (by simp [hxl, hyl, hyE, hyI, hyN, yl]) ?_
   refine WS_skip ?_; simp [hxl, hyl, hyE, hyI, hyN, yl]
   refine Ws ?_; simp [hxl, hyl, hyE, hyI, hyN, yl]
   refine WS_cF (by simp [hxl, hyl, hyE, hyI, hyN, yl]) ?_
   refine WS_skip ?_; simp [hxl, hyl, hyE, hyI, hyN, yl]
   exact rest (.inl rfl) _ (by simp) (by simp) (by simp) (by simp)
 · have hge : y.length ≤ x.length := by
    have := List.length_pos_iff.2 hx0
    omega
   have hp := List.length_pos_iff.2 hx0
   have g1 : (0 : Int) < (x.length : Int) := by omega
   have g2 : ¬ (x.length : Int) < (y.length : Int) := by omega
   refine Wr ?_; simp [hxl, hyl, hyE, hyI, hyN, yl, hp, g1, g2]
   refine Wr ?_; simp [hxl, hyl, hyE, hyI, hyN, yl, hp, g1, g2]
   refine callK nm1 ?_; simp [hxl, hyl, hyE, hyI, hyN, yl, hp, g1, g2]
   refine callK nm2 ?_; simp [hxl, hyl, hyE, hyI, hyN, yl, hp, g1, g2]
   refine Ws ?_; simp [hxl, hyl, hyE, hyI, hyN, yl, hp, g1, g2]
   refine WS_cF (by simp [hxl, hyl, hyE, hyI, hyN, yl, hp, g1, g2]) ?_
   refine WS_skip ?_; simp [hxl, hyl, hyE, hyI, hyN, yl, hp, g1, g2]
   refine Ws ?_; simp [hxl, hyl, hyE, hyI, hyN, yl, hp, g1, g2]
   refine WS_cF (by simp [hxl, hyl, hyE, hyI, hyN, yl, hp, g1, g2]) ?_
   refine WS_skip ?_; simp [hxl, hyl, hyE, hyI, hyN, yl, hp, g1, g2]
   exact rest (.inr hge) _ (by simp) (by simp) (by simp) (by simp)
noncomputable def pdivQ (a b : List Int) : List RV := if tr b = [] then [.pure (.sl (some 2) []), .pure (.i .i64 3)] else match pq a b with
 | some q => [.pure (.sl (some 2) (PZ q)), .pure (.i .i64 0)]
 | none => [.pure (.sl (some 2) []), .pure (.i .i64 4)]
theorem pdivq {k : Nat} {vs ws : List V} {a b : List Int} (hv : IsP k vs a) (hw : IsP k ws b) (hk : k ≤ 2 ^ 20) (hn : vs.length ≤ 2 ^ 20) (hn2 : ws.length ≤ 2 ^ 20) (hb : vs.length * (k + 1) ≤ 2 ^ 24) :
 Spec Tryz.prog f_zpoly_Div [.sl (some 2) vs, .sl (some 2) ws] (· = pdivQ a b) :=
 (pdiv hv hw hk hn hn2 hb).plain fun r e => by
  rw [e, pdivR, pdivQ]
  split
  · rfl
  · cases pq a b <;> rfl
theorem pdivQ_some {a b q : List Int} (hb : tr b ≠ []) (h : Eqp a (mulL q b)) : pdivQ a b = [.pure (.sl (some 2) (PZ (tr q))), .pure (.i .i64 0)] := by
 rw [pdivQ, if_neg hb, pq_some hb h]
theorem pdivQ_zero {a b : List Int} (hb : tr b = []) : pdivQ a b = [.pure (.sl (some 2) []), .pure (.i .i64 3)] := by
 rw [pdivQ, if_pos hb]
theorem pdivQ_none {a b : List Int} (hb : tr b ≠ []) (h : pq a b = none) : pdivQ a b = [.pure (.sl (some 2) []), .pure (.i .i64 4)] := by
 rw [pdivQ, if_neg hb, h]
theorem ofc {l : List Int} (hl : ∀ x ∈ l, -9223372036854775808 ≤ x ∧ x ≤ 9223372036854775807) (hn : l.length ≤ 2 ^ 40) (ht : tr l = l) : Spec Tryz.prog f_zpoly_Of [.sl none (l.map fun x => V.i .i64 x)] (· = [.pure (.sl (some 2) (PZ l))]) := by
 have := own_plain (pof hl hn)
 rwa [ht] at this
theorem pl_small {l : List Int} (hl : ∀ x ∈ l, -9223372036854775808 ≤ x ∧ x ≤ 9223372036854775807) : PL 1 l := fun i => by
 by_cases h : i < l.length
 · rw [cf_lt h]
   have := hl _ (List.getElem_mem h)
   exact zlen_small (by omega)
 · rw [cf_ge (by omega), zlen_zero]; omega
def Sml (l : List Int) : Prop := ∀ x ∈ l, -9223372036854775808 ≤ x ∧ x ≤ 9223372036854775807
instance (l : List Int) : Decidable (Sml l) := inferInstanceAs (Decidable (∀ x ∈ l, _))
structure Ld (i : Nat) (l : List Int) : Prop where
 pl : PL (2 ^ i) l
 len : l.length ≤ 2 ^ i
structure Rd (i : Nat) (vs : List V) (l : List Int) : Prop where
 isp : IsP (2 ^ i) vs l
 len : vs.length ≤ 2 ^ i
theorem two_le {i j : Nat} (h : i ≤ j) : 2 ^ i ≤ 2 ^ j := Nat.pow_le_pow_right (by omega) h
theorem Ld.mono {i j : Nat} {l : List Int} (h : Ld i l) (hij : i ≤ j) : Ld j l := ⟨h.pl.mono (two_le hij), Nat.le_trans h.len (two_le hij)⟩
theorem Rd.mono {i j : Nat} {vs : List V} {l : List Int} (h : Rd i vs l) (hij : i ≤ j) : Rd j vs l := ⟨h.isp.mono (two_le hij), Nat.le_trans h.len (two_le hij)⟩
theorem Ld.len40 {i : Nat} {l : List Int} (h : Ld i l) (hi : i ≤ 40) : l.length ≤ 2 ^ 40 := Nat.le_trans h.len (two_le hi)
theorem Ld.pl40 {i : Nat} {l : List Int} (h : Ld i l) (hi : i ≤ 40) : PL (2 ^ 40) l := h.pl.mono (two_le hi)
theorem ppL_eqp {a b : List Int} (h : Eqp a b) : ppL a = ppL b := by rw [ppL, ppL, tr_of_eqp h, coL_eqp h]
theorem ppL_len (a : List Int) : (ppL a).length = (tr a).length := by simp [ppL]
theorem rsame2 {x : Int} {k : Nat} (h : zlen x ≤ k) (hk : k ≤ 2 ^ 40) : Spec Tryz.prog f_ref02_Same [Z x, Z x] (· = [.pure (.b true)]) := zsame x (by omega)
theorem small_of {n w : Nat} {Ms : List (List (Bool × List Nat))} (hs : smB n w Ms = true) {M : List (Bool × List Nat)} (hM : M ∈ Ms) : (decide (M.length ≤ n) && smR w M) = true := by
 rw [smB, List.all_eq_true] at hs
 exact hs M hM
theorem tr_len_le {l : List Int} {m : Nat} (h : ∀ i, m ≤ i → cf l i = 0) : (tr l).length ≤ m := by
 by_cases h0 : tr l = []
 · rw [h0]; simp
 · have h1 := tr_last l h0
   rw [cf_tr] at h1
   rcases Nat.lt_or_ge m (tr l).length with h2 | h2
   · exact absurd (h _ (by omega)) h1
   · exact h2
def PoS (x : Int) (n : Nat) (b : Bool) (d : List Nat) (S : St) : Prop := ∃ i : Nat, i ≤ n ∧ S.σ 7 = .p (.i .i64 (n : Int)) ∧ S.σ 8 = .p (.i .i64 (i : Int)) ∧ S.σ 5 = .ptr 5 1 0 ∧ S.h 5 = ⟨1, some (.box 28 [.b (zn (x ^ i)), .sl none (uL (zl (x ^ i)))])⟩ ∧
 S.σ 2 = .p (.ref (some 2) (.agg [.b b, .sl none (uL d)])) ∧ S.σ 4 = .ptr 4 1 0 ∧ S.h 4 = ⟨1, some (.box 28 [.b false, .sl none []])⟩
theorem gdeg {sz : Option Nat} (vs : List V) (h : vs.length ≤ 2 ^ 62) : Spec Tryz.prog f_zgcd_degree [.sl sz vs] (· = [.pure (.i .i64 ((vs.length : Int) - 1))]) := by
 have w : IntKind.i64.wrap ((vs.length : Int) - 1) = (vs.length : Int) - 1 := i64_int _ (by omega) (by omega)
 refine spec_at Tryz.func62 ok_zgcd_degree [] rfl (by simp) ?_
 unfold sc_zgcd_degree
 refine Wr ?_; simp [w]
 refine Wr ?_; simp [w]
 refine WS_ret ?_; simp [w]
theorem gpow {k : Nat} {v : V} {x : Int} (hv : IsZ k v x) (n : Nat) (hk : k ≤ 2 ^ 25) (hn : n ≤ 2 ^ 40) (hb : n * k ≤ 2 ^ 25) : Spec Tryz.prog f_zgcd_power [v, .i .i64 (n : Int)] (· = [.pure (Z (x ^ n))]) := by
 have xl := hv.zlen
 have o1 := zof 1 (by omega) (by omega)
 have hv2 := hv
 obtain ⟨b, d, rfl, hd, hx⟩ := hv
 refine spec_at Tryz.func61 ok_zgcd_power [] rfl (by simp) ?_
 unfold sc_zgcd_power
 refine Wr ?_; simp
 refine WS_frz 2 2 (some 2) ?_
 simp [frzQ]
 refine Wr ?_; simp
 refine callK o1 ?_; simp
 refine Ws ?_; simp
 refine WS_block ?_
 refine WS_loop (PoS x n b d) (fun S => n - nM 8 S) ⟨0, by omega, rfl, rfl, rfl, by simp, rfl, rfl, rfl⟩ ?_
 rintro S ⟨i, hi, s7, s8, s5, h5, s2, s4, h4⟩
 have d8 := nM_eq s8
 by_cases hlt : i < n
 · have hltI : (i : Int) < (n : Int) := by omega
   have wi := i64_succ i (by omega)
   have h1 := zlen_pow x i
   have h2 : i * zlen x ≤ n * k := Nat.mul_le_mul (by omega) xl
   have mu := zmul (isZ_of (x := x ^ i) (k := 2 ^ 26) (by omega)) (hv2.mono (show k ≤ 2 ^ 26 by omega)) (by omega)
   rw [← Int.pow_succ] at mu
   obtain ⟨y, hy⟩ : ∃ y, y = x ^ i := ⟨_, rfl⟩
   rw [← hy] at mu h5
   obtain ⟨z, hz⟩ : ∃ z, z = x ^ (i + 1) := ⟨_, rfl⟩
   rw [← hz] at mu
   refine Wr ?_; simp [s7, s8, s5, h5, s2, s4, h4, hltI, wi]
   refine WS_seq ?_
   refine WS_cT (by simp [s7, s8, s5, h5, s2, s4, h4, hltI, wi]) ?_
   refine WS_skip ?_; simp [s7, s8, s5, h5, s2, s4, h4, hltI, wi]
   refine WS_seq (WS_block (WS_reg [] ?_)); simp [s7, s8, s5, h5, s2, s4, h4, hltI, wi]
   refine callK mu ?_; simp [s7, s8, s5, h5, s2, s4, h4, hltI, wi]
   refine WS_reg [] ?_; simp [s7, s8, s5, h5, s2, s4, h4, hltI, wi]
   refine ⟨⟨i + 1, by omega, by simp [s7], by simp, by simp [s5], by simp [hz], by simp [s2], by simp [s4], by simp [h4]⟩, ?_⟩
   show n - nM 8 _ < n - nM 8 S
   rw [d8, nM_eq (i := 8) (n := i + 1) (by simp)]
   omega
 · obtain rfl : i = n := by omega
   have hltI : ¬ (i : Int) < (i : Int) := by omega
   refine Wr ?_; simp [s7, s8, s5, h5, s2, s4, h4, hltI]
   refine WS_seq ?_
   refine WS_cF (by simp [s7, s8, s5, h5, s2, s4, h4, hltI]) ?_
   refine WS_exit ?_; simp [s7, s8, s5, h5, s2, s4, h4, hltI]
   refine Wr ?_; simp [s7, s8, s5, h5, s2, s4, h4, hltI]
   refine WS_ret ?_; simp [s7, s8, s5, h5, s2, s4, h4, hltI]
structure PsI (K : Nat) (x y : List Int) (n k : Nat) (q r : List Int) : Prop where
 qlen : q.length = n
 rtr : tr r = r
 rst : Rst (scL (ldL y ^ n) x) y q r
 low : ∀ i, i < k → cf q i = 0
 top : ∀ i, k + y.length ≤ i + 1 → cf r i = 0
 mul : ∃ s, Eqp r (scL (ldL y ^ k) s) ∧ PL (K + (n - k) * (K + 1)) s
 qlim : PL (n * K + K + n * (K + 1) + 1) q
theorem psI_first {K n : Nat} {x y : List Int} (hx : PL K x) (hn : n = x.length + 1 - y.length) : PsI K x y n n (List.replicate n 0) (tr (scL (ldL y ^ n) x)) := by
 refine ⟨by simp, tr_tr _, fun i => ?_, fun i _ => cf_replicate _ _, fun i hi => ?_, ⟨x, cf_tr _, fun i => by have := hx i; omega⟩, fun i => by rw [cf_replicate, zlen_zero]; omega⟩
 · rw [cf_addL, mulL_zeros (fun i => cf_replicate _ _), cf_tr]; omega
 · rw [cf_tr, cf_scL, cf_ge (l := x) (by omega), Int.mul_zero]
theorem ldL_tr {y : List Int} (hy : tr y = y) : ldL y = cf y (y.length - 1) := by rw [ldL, hy]
theorem psI_lim {K n k : Nat} {x y q r : List Int} (h : PsI K x y n k q r) (hy : PL K y) (ht : tr y = y) (hk : k ≤ n) : PL (n * K + K + n * (K + 1) + 1) r := by
 obtain ⟨s, hs, hl⟩ := h.mul
 intro i
 rw [hs i, cf_scL]
 have h1 := zlen_mul (ldL y ^ k) (cf s i)
 have h2 := zlen_pow (ldL y) k
 have h3 : zlen (ldL y) ≤ K := by rw [ldL_tr ht]; exact hy _
 have h4 : k * zlen (ldL y) ≤ n * K := Nat.mul_le_mul hk h3
 have h5 := hl i
 have h6 := Nat.mul_le_mul_right (K + 1) (show n - k ≤ n by omega)
 omega
theorem psI_head {K n k : Nat} {x y q r : List Int} (h : PsI K x y n (k + 1) q r) (hy0 : ldL y ≠ 0) : ∃ t, cf r (k + y.length - 1) = ldL y ^ (k + 1) * t ∧ cf r (k + y.length - 1) % ldL y = 0 ∧ cf r (k + y.length - 1) / ldL y = ldL y ^ k * t := by
 obtain ⟨s, hs, _⟩ := h.mul
 refine ⟨cf s (k + y.length - 1), by rw [hs, cf_scL], ?_, ?_⟩
 · rw [hs, cf_scL, Int.pow_succ, Int.mul_comm (ldL y ^ k), Int.mul_assoc]; exact Int.mul_emod_right _ _
 · rw [hs, cf_scL, Int.pow_succ, Int.mul_comm (ldL y ^ k), Int.mul_assoc]; exact Int.mul_ediv_cancel_left _ hy0
theorem psI_step {K n k : Nat} {x y q r r' : List Int} (h : PsI K x y n (k + 1) q r) (hk : k + 1 ≤ n) (hy : PL K y) (ht : tr y = y) (hy0 : y ≠ []) {c : Int} (hc : c = cf r (k + y.length - 1) / ldL y)
 (he : ∀ j, cf r' j = cf r j - if k ≤ j then c * cf y (j - k) else 0) (hr' : tr r' = r') : PsI K x y n k (q.set k c) r' := by
 have ly := List.length_pos_iff.2 hy0
 have l0 : ldL y ≠ 0 := tr_last y (by rw [ht]; exact hy0)
 obtain ⟨s, hs, hl⟩ := h.mul
 have hct : c = ldL y ^ k * cf s (k + y.length - 1) := by
  rw [hc, hs, cf_scL, Int.pow_succ, Int.mul_comm (ldL y ^ k), Int.mul_assoc]; exact Int.mul_ediv_cancel_left _ l0
 have hlen : zlen (ldL y) ≤ K := by rw [ldL_tr ht]; exact hy _
 refine ⟨by simp [h.qlen], hr', ?_, fun i hi => ?_, fun i hi => ?_, ⟨addL (scL (ldL y) s) (scL (-(cf s (k + y.length - 1))) (mulL (moL k 1) y)), fun i => ?_, fun i => ?_⟩, fun i => ?_⟩
 · exact rst_eqp (rst_step h.rst he) (set_moL c (by rw [h.qlen]; omega) (h.low k (by omega))).symm Eqp.rfl'
 · rw [cf_set _ _ _ _ (by rw [h.qlen]; omega), if_neg (by omega)]; exact h.low i (by omega)
 · rw [he, if_pos (by omega)]
   rcases Nat.lt_or_ge (k + y.length - 1) i with h1 | h1
   · rw [h.top i (by omega), cf_ge (l := y) (by omega)]; omega
   · obtain rfl : i = k + y.length - 1 := by omega
     rw [hct, hs, cf_scL, show k + y.length - 1 - k = y.length - 1 by omega, ← ldL_tr ht, Int.pow_succ]
     grind
 · rw [he, hs, cf_scL, cf_scL, cf_addL, cf_scL, cf_scL, cf_moL, hct, Int.pow_succ]
   split <;> grind
 · rw [cf_addL, cf_scL, cf_scL, cf_moL]
   have h1 := zlen_add (ldL y * cf s i) (-(cf s (k + y.length - 1)) * if k ≤ i then 1 * cf y (i - k) else 0)
   have h2 := zlen_mul (ldL y) (cf s i)
   have h3 := hl i
   have h4 := zlen_mul (-(cf s (k + y.length - 1))) (if k ≤ i then 1 * cf y (i - k) else 0)
   have h5 := hl (k + y.length - 1)
   rw [zlen_neg] at h4
   have h6 : zlen (if k ≤ i then 1 * cf y (i - k) else 0) ≤ K := by
    split
    · rw [Int.one_mul]; exact hy _
    · rw [zlen_zero]; omega
   have h7 : (n - k) * (K + 1) = (n - (k + 1)) * (K + 1) + (K + 1) := by rw [show n - k = (n - (k + 1)) + 1 by omega, Nat.succ_mul]
   omega
 · rw [cf_set _ _ _ _ (by rw [h.qlen]; omega)]
   split
   · have h1 := zlen_mul (ldL y ^ k) (cf s (k + y.length - 1))
     have h2 := zlen_pow (ldL y) k
     have h4 : k * zlen (ldL y) ≤ n * K := Nat.mul_le_mul (by omega) hlen
     have h5 := hl (k + y.length - 1)
     have h6 := Nat.mul_le_mul_right (K + 1) (show n - (k + 1) ≤ n by omega)
     rw [hct]
     omega
   · exact h.qlim i
theorem psI_skip {K n k : Nat} {x y q r : List Int} (h : PsI K x y n (k + 1) q r) (hk : k + 1 ≤ n) (hy : PL K y) (ht : tr y = y) (hr : r.length < k + y.length) : PsI K x y n k q r := by
 obtain ⟨s, hs, hl⟩ := h.mul
 have hlen : zlen (ldL y) ≤ K := by rw [ldL_tr ht]; exact hy _
 refine ⟨h.qlen, h.rtr, h.rst, fun i hi => h.low i (by omega), fun i hi => cf_ge (by omega), ⟨scL (ldL y) s, fun i => ?_, fun i => ?_⟩, h.qlim⟩
 · rw [hs, cf_scL, cf_scL, cf_scL, Int.pow_succ, Int.mul_assoc]
 · rw [cf_scL]
   have h2 := zlen_mul (ldL y) (cf s i)
   have h3 := hl i
   have h7 : (n - k) * (K + 1) = (n - (k + 1)) * (K + 1) + (K + 1) := by rw [show n - k = (n - (k + 1)) + 1 by omega, Nat.succ_mul]
   omega
theorem psI_end {K n : Nat} {x y q r : List Int} (h : PsI K x y n 0 q r) (hx : tr x = x) (ht : tr y = y) (hy0 : y ≠ []) (hn : n = x.length + 1 - y.length) : tr q = tr (psD x y).1 ∧ r = tr (psD x y).2 := by
 have ly := List.length_pos_iff.2 hy0
 have hp : Ps x y q r := ⟨by rw [hx, ht, ← hn]; exact h.rst, by
  have := tr_len_le (l := r) (m := y.length - 1) (fun i hi => h.top i (by omega))
  rw [ht]; omega⟩
 obtain ⟨h1, h2⟩ := ps_unique hp (psD_ok (a := x) (b := y) (by rw [ht]; exact hy0))
 exact ⟨tr_of_eqp h1, by rw [← h.rtr]; exact tr_of_eqp h2⟩
theorem psI_run {K n : Nat} {x y : List Int} (hy : PL K y) (ht : tr y = y) (hy0 : y ≠ []) : ∀ (k : Nat) (q r : List Int), k ≤ n → PsI K x y n k q r → ∃ q' r', PsI K x y n 0 q' r'
 | 0, q, r, _, h => ⟨q, r, h⟩
 | k + 1, q, r, hk, h =>
  psI_run hy ht hy0 k _ (tr (addL r (scL (-(cf r (k + y.length - 1) / ldL y)) (mulL (moL k 1) y)))) (by omega) (psI_step h hk hy ht hy0 rfl (fun j => by
   rw [cf_tr, cf_addL, cf_scL, cf_moL]
   split <;> grind) (tr_tr _))
theorem psD_lim {K n : Nat} {x y : List Int} (hx : PL K x) (hxt : tr x = x) (hy : PL K y) (ht : tr y = y) (hy0 : y ≠ []) (hn : n = x.length + 1 - y.length) : PL (K + n * (K + 1)) (tr (psD x y).2) ∧ PL (n * K + K + n * (K + 1) + 1) (tr (psD x y).1) ∧ (tr (psD x y).1).length ≤ n ∧ (tr (psD x y).2).length < y.length := by
 obtain ⟨q, r, h⟩ := psI_run hy ht hy0 n _ _ (Nat.le_refl n) (psI_first hx hn)
 obtain ⟨e1, e2⟩ := psI_end h hxt ht hy0 hn
 obtain ⟨s, hs, hl⟩ := h.mul
 refine ⟨?_, ?_, ?_, ?_⟩
 · rw [← e2]
   refine hl.eqp fun i => ?_
   rw [hs i, cf_scL]; simp
 · rw [← e1]; exact pl_tr h.qlim
 · rw [← e1]; have := tr_len q; have := h.qlen; omega
 · have := (psD_ok (a := x) (b := y) (by rw [ht]; exact hy0)).lt
   rwa [ht] at this
theorem psD_tr {a b : List Int} (hb : tr b ≠ []) : tr (psD a b).1 = tr (psD (tr a) (tr b)).1 ∧ tr (psD a b).2 = tr (psD (tr a) (tr b)).2 := by
 have h := psD_ok (a := tr a) (b := tr b) (by rw [tr_tr]; exact hb)
 have e1 := h.eq
 have e2 := h.lt
 rw [tr_tr] at e2
 rw [tr_tr, tr_tr, ldL_eqp (cf_tr b)] at e1
 have h2 : Ps a b (psD (tr a) (tr b)).1 (psD (tr a) (tr b)).2 := ⟨(eqp_scL _ (cf_tr a).symm).trans (e1.trans (eqp_addL (eqp_mulL_right (cf_tr b) _) Eqp.rfl')), e2⟩
 obtain ⟨g1, g2⟩ := ps_unique (psD_ok hb) h2
 exact ⟨tr_of_eqp g1, tr_of_eqp g2⟩
def pseR (a b : List Int) : List RV := if tr b = [] then [.pure (.sl (some 2) []), .pure (.sl (some 2) []), .pure (.i .i64 3)] else [.pure (.sl (some 2) (PZ (tr (psD a b).1))), .pure (.sl (some 2) (PZ (tr (psD a b).2))), .pure (.i .i64 0)]
theorem pseR_tr (a b : List Int) : pseR a b = pseR (tr a) (tr b) := by
 rw [pseR, pseR, tr_tr]
 by_cases hb : tr b = []
 · rw [if_pos hb, if_pos hb]
 · rw [if_neg hb, if_neg hb, (psD_tr hb).1, (psD_tr hb).2]
theorem tr_sc_plain {c : Int} {y : List Int} (hc : c ≠ 0) (ht : tr y = y) : tr (scL c y) = scL c y := by
 have h := tr_scL hc y
 rw [ht] at h
 have h2 : (scL c y).length = y.length := by simp [scL]
 exact ext_cf (by omega) (cf_tr _)
theorem cf_zeros_app (k : Nat) (l : List Int) (j : Nat) : cf (List.replicate k 0 ++ l) j = if k ≤ j then cf l (j - k) else 0 := by
 rw [cf_append, List.length_replicate]
 by_cases h : j < k
 · rw [if_pos h, if_neg (by omega), cf_replicate]
 · rw [if_neg h, if_pos (by omega)]
theorem mk_ok {k : Nat} (h : k ≤ 2 ^ 40) : (k : Int) * 32 ≤ 140737488355328 ∧ (k : Int) ≤ 140737488355328 := by omega
theorem mk_okN {k : Nat} (h : k ≤ 2 ^ 40) : k * 32 ≤ 140737488355328 ∧ k ≤ 140737488355328 := by omega
def PsC (y : List Int) (n : Nat) (q r : List Int) (k : Nat) (S : St) : Prop := S.σ 1 = .p (.sl (some 2) (PZ y)) ∧ S.σ 8 = .ptr 8 1 0 ∧ S.h 8 = ⟨1, some (.box 28 [.b (zn (ldL y)), .sl none (uL (zl (ldL y)))])⟩ ∧ S.σ 9 = .p (.sl (some 2) (PZ r)) ∧ S.σ 10 = .own 39 1 0 n ∧ S.h 39 = ⟨1, some (.arr 28 (some 2) (PZ q))⟩ ∧ S.σ 11 = .p (.i .i64 ((k : Int) - 1))
def PsS (K : Nat) (x y : List Int) (n : Nat) (S : St) : Prop := ∃ (k : Nat) (q r : List Int), k ≤ n ∧ PsI K x y n k q r ∧ PsC y n q r k S
set_option maxHeartbeats 1000000 in
theorem gpseudo {K : Nat} {vs ws : List V} {a b : List Int} (hv : IsP K vs a) (hw : IsP K ws b) (hn : vs.length ≤ 2 ^ 16) (hn2 : ws.length ≤ 2 ^ 16) (hK : ∀ n, n ≤ (tr a).length + 1 - (tr b).length → n * K + K + n * (K + 1) + 1 ≤ 2 ^ 24) :
 Spec Tryz.prog f_zgcd_Pseudo [.sl (some 2) vs, .sl (some 2) ws] (· = pseR a b) := by
 have hKK := hK 0 (Nat.zero_le _)
 have nm1 := own_plain (pnorm hv (by omega) (by omega))
 have nm2 := own_plain (pnorm hw (by omega) (by omega))
 have pla := pl_tr hv.pl
 have plb := pl_tr hw.pl
 have tla : (tr a).length ≤ vs.length := by have := tr_len a; have := hv.len; omega
 have tlb : (tr b).length ≤ ws.length := by have := tr_len b; have := hw.len; omega
 rw [pseR_tr]
 have ta := tr_tr a
 have tb := tr_tr b
 obtain ⟨x, hx⟩ : ∃ x, x = tr a := ⟨_, rfl⟩
 obtain ⟨y, hy⟩ : ∃ x, x = tr b := ⟨_, rfl⟩
 rw [← hx] at nm1 pla tla ta hK ⊢
 rw [← hy] at nm2 plb tlb tb hK ⊢
 clear hx hy
 have hxl := PZ_length x
 have hyl := PZ_length y
 rw [pseR, tb]
 refine spec_at Tryz.func75 ok_zgcd_Pseudo [] rfl (by simp) ?_
 unfold sc_zgcd_Pseudo
 by_cases hy0 : y = []
 · subst hy0
   rw [if_pos rfl]
   obtain ⟨X, hX⟩ : ∃ X, X = PZ x := ⟨_, rfl⟩
   rw [← hX] at nm1
   refine Wr ?_; simp [PZ, List.map_nil]
   refine Wr ?_; simp [PZ, List.map_nil]
   refine callK nm1 ?_; simp [PZ, List.map_nil]
   refine callK nm2 ?_; simp [PZ, List.map_nil]
   refine Ws ?_; simp [PZ, List.map_nil]
   refine WS_cT (by simp [PZ, List.map_nil]) ?_
   refine Wr ?_; simp [PZ, List.map_nil]
   refine WS_ret ?_; simp [PZ, List.map_nil]
 rw [if_neg hy0]
 have yl := List.length_pos_iff.2 hy0
 have hyE : ((y.length : Int) == 0) = false := by simp; omega
 have hyN : ¬ y.length = 0 := by omega
 obtain ⟨n, hnn⟩ : ∃ n, n = x.length + 1 - y.length := ⟨_, rfl⟩
 have hKn := hK n (by omega)
 have l0 : ldL y ≠ 0 := tr_last y (by rw [tb]; exact hy0)
 have hll : zlen (ldL y) ≤ K := by rw [ldL_tr tb]; exact plb _
 have hg0 := PZ_get y (y.length - 1) (by omega)
 rw [← ldL_tr tb] at hg0
 have w1 : IntKind.i64.wrap ((x.length : Int) - (y.length : Int)) = (x.length : Int) - (y.length : Int) := i64_int _ (by omega) (by omega)
 have w2 : IntKind.i64.wrap ((x.length : Int) - (y.length : Int) + 1) = (x.length : Int) - (y.length : Int) + 1 := i64_int _ (by omega) (by omega)
 have w3 : (if (x.length : Int) - (y.length : Int) + 1 < 0 then 0 else (x.length : Int) - (y.length : Int) + 1) = (n : Int) := by split <;> omega
 have w4 : IntKind.i64.wrap ((n : Int) - 1) = (n : Int) - 1 := i64_int _ (by omega) (by omega)
 have w5 : IntKind.i64.wrap ((y.length : Int) - 1) = (y.length : Int) - 1 := i64_int _ (by omega) (by omega)
 have t5 : ((y.length : Int) - 1).toNat = y.length - 1 := by omega
 have b5 : y.length - 1 < y.length := by omega
 have b6 : (1 : Int) ≤ (y.length : Int) := by omega
 have b7 : (y.length : Int) - 1 < (y.length : Int) := by omega
 have hnK : n * K ≤ 2 ^ 24 := by omega
 have pw := gpow (isZ_of hll) n (by omega) (by omega) (by omega)
 have hpl : zlen (ldL y ^ n) ≤ n * K + 1 := by
  have h1 := zlen_pow (ldL y) n
  have h2 := Nat.mul_le_mul_left n hll
  omega
 have sc := own_plain (pscale (isP_PZ pla) (isZ_of hpl) (by omega) (by omega) (by omega))
 have hfirst := psI_first pla hnn (y := y)
 have hz : List.replicate n (V.agg [.b false, .sl none []]) = PZ (List.replicate n 0) := PZ_replicate n
 obtain ⟨r0, hr0⟩ : ∃ r, r = tr (scL (ldL y ^ n) x) := ⟨_, rfl⟩
 rw [← hr0] at sc hfirst
 obtain ⟨ln, hln⟩ : ∃ r, r = ldL y ^ n := ⟨_, rfl⟩
 rw [← hln] at sc pw
 obtain ⟨Y, hY⟩ : ∃ X, X = PZ y := ⟨_, rfl⟩
 simp only [← hY] at hg0
 rw [← hY] at nm2 hyl
 obtain ⟨X, hX⟩ : ∃ X, X = PZ x := ⟨_, rfl⟩
 rw [← hX] at nm1 hxl sc
 refine Wr ?_; simp [hxl, hyl, hyE, hyN, w1, w2, w3, w4, w5, t5, b5, b6, b7, hg0]
 refine Wr ?_; simp [hxl, hyl, hyE, hyN, w1, w2, w3, w4, w5, t5, b5, b6, b7, hg0]
 refine callK nm1 ?_; simp [hxl, hyl, hyE, hyN, w1, w2, w3, w4, w5, t5, b5, b6, b7, hg0]
 refine callK nm2 ?_; simp [hxl, hyl, hyE, hyN, w1, w2, w3, w4, w5, t5, b5, b6, b7, hg0]
 refine Ws ?_; simp [hxl, hyl, hyE, hyN, w1, w2, w3, w4, w5, t5, b5, b6, b7, hg0]
 refine WS_cF (by simp [hxl, hyl, hyE, hyN, w1, w2, w3, w4, w5, t5, b5, b6, b7, hg0]) ?_
 refine WS_skip ?_; simp [hxl, hyl, hyE, hyN, w1, w2, w3, w4, w5, t5, b5, b6, b7, hg0]
 refine Wr ?_; simp [hxl, hyl, hyE, hyN, w1, w2, w3, w4, w5, t5, b5, b6, b7, hg0]
 refine Wr ?_; simp [hxl, hyl, hyE, hyN, w1, w2, w3, w4, w5, t5, b5, b6, b7, hg0]
 refine Wr ?_; simp [hxl, hyl, hyE, hyN, w1, w2, w3, w4, w5, t5, b5, b6, b7, hg0]
 refine callK pw ?_; simp [hxl, hyl, hyE, hyN, w1, w2, w3, w4, w5, t5, b5, b6, b7, hg0]
 refine callK sc ?_; simp [hxl, hyl, hyE, hyN, w1, w2, w3, w4, w5, t5, b5, b6, b7, hg0]
 refine Wr ?_; simp [hxl, hyl, hyE, hyN, w1, w2, w3, w4, w5, t5, b5, b6, b7, hg0]
 refine ⟨by omega, ?_⟩
 refine Ws ?_; simp [hxl, hyl, hyE, hyN, w1, w2, w3, w4, w5, t5, b5, b6, b7, hg0]
 refine WS_block ?_
 refine WS_loop (PsS K x y n) (dnM 11) ⟨n, List.replicate n 0, r0, by omega, hfirst, by simp [hY], by simp, by simp, by simp, by simp, by simp [hz], by simp⟩ ?_
 clear hg0 nm1 nm2 hln pw sc hfirst hr0 r0 hX hxl X ln hpl
 rintro S ⟨k, q, r, hk, hD, s1, s8, h8, s9, s10, h39, s11⟩
 have d11 := dnM_eq s11
 have hrl := PZ_length r
 have hql : (PZ q).length = n := by rw [PZ_length, hD.qlen]
 rw [← hY] at s1
 cases k with
 | zero =>
  obtain ⟨e1, e2⟩ := psI_end hD ta tb hy0 hnn
  have nq := own_plain (pnorm (isP_PZ (hD.qlim.mono (show n * K + K + n * (K + 1) + 1 ≤ 2 ^ 24 by omega))) (by omega) (by rw [hql]; omega))
  rw [e1] at nq
  rw [← e2]
  obtain ⟨Q, hQ⟩ : ∃ X, X = PZ q := ⟨_, rfl⟩
  rw [← hQ] at nq h39 hql
  have htQ : Q.take n = Q := List.take_of_length_le (by omega)
  obtain ⟨R, hR⟩ : ∃ X, X = PZ r := ⟨_, rfl⟩
  rw [← hR] at s9 hrl ⊢
  refine Ws ?_; simp [s1, s8, h8, s9, s10, h39, s11]
  refine WS_cF (by simp [s1, s8, h8, s9, s10, h39, s11]) ?_
  refine WS_exit ?_; simp [s1, s8, h8, s9, s10, h39, s11]
  refine WS_frz 39 10 none ?_
  simp [frzQ, s10, h39, hql, htQ]
  refine Wr ?_; simp [s1, s8, h8, s9, s10, h39, s11]
  refine callK nq ?_; simp [s1, s8, h8, s9, s10, h39, s11]
  refine WS_ret ?_; simp [s1, s8, h8, s9, s10, h39, s11]
 | succ k =>
  have e1 : ((k + 1 : Nat) : Int) - 1 = (k : Int) := by omega
  rw [e1] at s11
  have v1 : IntKind.i64.wrap ((k : Int) + (y.length : Int)) = (k : Int) + (y.length : Int) := i64_int _ (by omega) (by omega)
  have v2 : IntKind.i64.wrap ((k : Int) + (y.length : Int) - 1) = (k : Int) + (y.length : Int) - 1 := i64_int _ (by omega) (by omega)
  have v3 : IntKind.i64.wrap ((k : Int) - 1) = (k : Int) - 1 := i64_int _ (by omega) (by omega)
  have hlim := psI_lim hD plb tb hk
  by_cases hsk : r.length < k + y.length
  · have hskI : (r.length : Int) < (k : Int) + (y.length : Int) := by omega
    have hnx := psI_skip hD hk plb tb hsk
    obtain ⟨R, hR⟩ : ∃ X, X = PZ r := ⟨_, rfl⟩
    rw [← hR] at s9 hrl
    refine Ws ?_; simp [s1, s8, h8, s9, s10, h39, s11, hrl, hyl, v1, v3, hskI]
    refine WS_cT (by simp [s1, s8, h8, s9, s10, h39, s11, hrl, hyl, v1, v3, hskI]) ?_
    refine WS_skip ?_; simp [s1, s8, h8, s9, s10, h39, s11, hrl, hyl, v1, v3, hskI]
    refine WS_seq (WS_block (Ws ?_)); simp [s1, s8, h8, s9, s10, h39, s11, hrl, hyl, v1, v3, hskI]
    refine WS_cT (by simp [s1, s8, h8, s9, s10, h39, s11, hrl, hyl, v1, v3, hskI]) ?_
    refine WS_exit ?_; simp [s1, s8, h8, s9, s10, h39, s11, hrl, hyl, v1, v3, hskI]
    refine WS_reg [] ?_; simp [s1, s8, h8, s9, s10, h39, s11, hrl, hyl, v1, v3, hskI]
    refine ⟨⟨k, q, r, by omega, hnx, by simp [s1, hY], by simp [s8], by simp [h8], by simp [s9, hR], by simp [s10], by simp [h39], by simp⟩, ?_⟩
    rw [d11, dnM_eq (i := 11) (k := k) (by simp)]
    omega
  · have hskI : ¬ (r.length : Int) < (k : Int) + (y.length : Int) := by omega
    have hrlen : r.length = k + y.length := by
     have := tr_len_le (l := r) (m := k + y.length) (fun i hi => hD.top i (by omega))
     rw [hD.rtr] at this; omega
    obtain ⟨t, g1, g2, g3⟩ := psI_head hD l0
    have kl40 : k ≤ 2 ^ 40 := by omega
    have ky40 : k + y.length ≤ 2 ^ 40 := by omega
    have top0 : cf r (k + y.length - 1) ≠ 0 := by
     have := tr_last r (by rw [hD.rtr]; intro h; rw [h] at hrlen; simp at hrlen; omega)
     rw [hD.rtr, hrlen] at this
     exact this
    obtain ⟨c, hc⟩ : ∃ c, c = cf r (k + y.length - 1) / ldL y := ⟨_, rfl⟩
    have hcm := Int.ediv_mul_cancel (Int.dvd_of_emod_eq_zero g2)
    rw [← hc] at hcm
    have c0 : c ≠ 0 := fun h => top0 (by rw [← hcm, h, Int.zero_mul])
    have hcl : zlen c ≤ n * K + K + n * (K + 1) + 1 := by
     refine Nat.le_trans (zlen_le ?_) (hlim (k + y.length - 1))
     rw [← hcm, Int.natAbs_mul]
     exact Nat.le_mul_of_pos_right _ (Int.natAbs_pos.2 l0)
    have ex := zexact (isZ_of (x := cf r (k + y.length - 1)) (k := 2 ^ 25) (by have := hlim (k + y.length - 1); omega)) (isZ_of (x := ldL y) (k := 2 ^ 25) (by omega)) (by omega)
    rw [exactR, if_neg l0, if_pos g2, ← hc] at ex
    have sc := own_plain (pscale (isP_PZ plb) (isZ_of (x := c) (k := 2 ^ 24) (by omega)) (by omega) (by omega) (by rw [PZ_length]; omega))
    rw [tr_sc_plain c0 tb] at sc
    obtain ⟨pt, hpt⟩ : ∃ p, p = List.replicate k 0 ++ scL c y := ⟨_, rfl⟩
    have hpart : List.replicate k (V.agg [.b false, .sl none []]) ++ PZ (scL c y) = PZ pt := by rw [PZ_replicate, hpt]; simp [PZ]
    have hcp : ∀ j, cf pt j = if k ≤ j then c * cf y (j - k) else 0 := fun j => by rw [hpt, cf_zeros_app]; simp only [cf_scL]
    have plp : PL (2 ^ 25) pt := fun j => by
     rw [hcp]
     split
     · have h1 := zlen_mul c (cf y (j - k))
       have h2 := plb (j - k)
       omega
     · rw [zlen_zero]; omega
    have sb := own_plain (psub' (isP_PZ (hlim.mono (show n * K + K + n * (K + 1) + 1 ≤ 2 ^ 25 by omega))) (isP_PZ plp) (by omega) (by rw [PZ_length]; omega) (by rw [PZ_length, hpt]; simp [scL]; omega))
    obtain ⟨r', hr'⟩ : ∃ r', r' = tr (addL r (scL (-1) pt)) := ⟨_, rfl⟩
    rw [← hr'] at sb
    have hnx := psI_step (r' := r') hD hk plb tb hy0 hc (fun j => by rw [hr', cf_tr, cf_addL, cf_scL, hcp]; omega) (by rw [hr', tr_tr])
    have hset := PZ_set q k c
    rw [Z_eq] at hset
    obtain ⟨q', hq'⟩ : ∃ q', q' = q.set k c := ⟨_, rfl⟩
    rw [← hq'] at hset hnx
    have hq'l : (PZ q').length = n := by rw [PZ_length, hq']; simpa using hD.qlen
    have hgk : (PZ q')[k]'(by omega) = .agg [.b (zn c), .sl none (uL (zl c))] := by
     rw [PZ_get, hq', cf_set _ _ _ _ (by rw [hD.qlen]; omega), if_pos rfl]
    have hg := PZ_get r (k + y.length - 1) (by omega)
    have kn : k < n := by omega
    have knI : (k : Int) < (n : Int) := by omega
    have t1 : ((k : Int) + (y.length : Int) - 1).toNat = k + y.length - 1 := by omega
    have i1 : k + y.length - 1 < r.length := by omega
    have i2 : (1 : Int) ≤ (k : Int) + (y.length : Int) := by omega
    have i3 : (k : Int) + (y.length : Int) - 1 < (r.length : Int) := by omega
    have spl := PZ_length (scL c y)
    have sll : (scL c y).length = y.length := by simp [scL]
    rw [sll] at spl
    obtain ⟨R, hR⟩ : ∃ X, X = PZ r := ⟨_, rfl⟩
    simp only [← hR] at hg
    rw [← hR] at s9 hrl sb
    obtain ⟨Q, hQ⟩ : ∃ X, X = PZ q := ⟨_, rfl⟩
    rw [← hQ] at h39 hql hset
    obtain ⟨Q', hQ'⟩ : ∃ X, X = PZ q' := ⟨_, rfl⟩
    simp only [← hQ'] at hgk
    rw [← hQ'] at hset hq'l
    obtain ⟨U, hU⟩ : ∃ X, X = PZ (scL c y) := ⟨_, rfl⟩
    rw [← hU] at sc hpart spl
    rw [← hY] at sc
    obtain ⟨P, hP⟩ : ∃ X, X = PZ pt := ⟨_, rfl⟩
    rw [← hP] at hpart sb
    clear hlim hcl plp hcp hcm top0 hr' g1 g2 g3
    refine Ws ?_; simp [s1, s8, h8, s9, s10, h39, s11, hrl, hyl, v1, v2, v3, hskI, hg, t1, i1, i2, i3, kn, knI, hql, hset, hgk, hq'l, spl, hpart]
    refine WS_cT (by simp [s1, s8, h8, s9, s10, h39, s11, hrl, hyl, v1, v2, v3, hskI, hg, t1, i1, i2, i3, kn, knI, hql, hset, hgk, hq'l, spl, hpart]) ?_
    refine WS_skip ?_; simp [s1, s8, h8, s9, s10, h39, s11, hrl, hyl, v1, v2, v3, hskI, hg, t1, i1, i2, i3, kn, knI, hql, hset, hgk, hq'l, spl, hpart]
    refine WS_seq (WS_block (Ws ?_)); simp [s1, s8, h8, s9, s10, h39, s11, hrl, hyl, v1, v2, v3, hskI, hg, t1, i1, i2, i3, kn, knI, hql, hset, hgk, hq'l, spl, hpart]
    refine WS_cF (by simp [s1, s8, h8, s9, s10, h39, s11, hrl, hyl, v1, v2, v3, hskI, hg, t1, i1, i2, i3, kn, knI, hql, hset, hgk, hq'l, spl, hpart]) ?_
    refine WS_skip ?_; simp [s1, s8, h8, s9, s10, h39, s11, hrl, hyl, v1, v2, v3, hskI, hg, t1, i1, i2, i3, kn, knI, hql, hset, hgk, hq'l, spl, hpart]
    refine WS_seq (WS_regD [] ?_); simp [s1, s8, h8, s9, s10, h39, s11, hrl, hyl, v1, v2, v3, hskI, hg, t1, i1, i2, i3, kn, knI, hql, hset, hgk, hq'l, spl, hpart]
    refine callD ex rfl ?_; simp [s1, s8, h8, s9, s10, h39, s11, hrl, hyl, v1, v2, v3, hskI, hg, t1, i1, i2, i3, kn, knI, hql, hset, hgk, hq'l, spl, hpart]
    refine ⟨rfl, ?_⟩
    refine WS_seq (WS_regD [77] ?_); simp [s1, s8, h8, s9, s10, h39, s11, hrl, hyl, v1, v2, v3, hskI, hg, t1, i1, i2, i3, kn, knI, hql, hset, hgk, hq'l, spl, hpart]
    refine ⟨mk_ok kl40, ?_⟩
    refine callD sc rfl ?_; simp [s1, s8, h8, s9, s10, h39, s11, hrl, hyl, v1, v2, v3, hskI, hg, t1, i1, i2, i3, kn, knI, hql, hset, hgk, hq'l, spl, hpart]
    refine ⟨mk_okN ky40, ?_⟩
    refine ⟨rfl, ?_⟩
    refine WS_reg [] ?_; simp [s1, s8, h8, s9, s10, h39, s11, hrl, hyl, v1, v2, v3, hskI, hg, t1, i1, i2, i3, kn, knI, hql, hset, hgk, hq'l, spl, hpart]
    refine callK sb ?_; simp [s1, s8, h8, s9, s10, h39, s11, hrl, hyl, v1, v2, v3, hskI, hg, t1, i1, i2, i3, kn, knI, hql, hset, hgk, hq'l, spl, hpart]
    refine WS_reg [] ?_; simp [s1, s8, h8, s9, s10, h39, s11, hrl, hyl, v1, v2, v3, hskI, hg, t1, i1, i2, i3, kn, knI, hql, hset, hgk, hq'l, spl, hpart]
    refine ⟨⟨k, q', r', by omega, hnx, by simp [s1, hY], by simp [s8], by simp [h8], by simp, by simp [s10], by simp [hset, hQ'], by simp⟩, ?_⟩
    rw [d11, dnM_eq (i := 11) (k := k) (by simp)]
    omega
theorem pl_pp {k : Nat} {a : List Int} (h : PL k a) : PL k (ppL a) := fun j => by
 rw [cf_ppL]
 refine Nat.le_trans (zlen_le ?_) (h j)
 rw [Int.natAbs_ediv_of_dvd (coL_dvd a j)]
 exact Nat.div_le_self _ _
theorem three_pow (m : Nat) : 2 * m + 1 ≤ 3 ^ m := by
 induction m with
 | zero => simp
 | succ m ih => rw [Nat.pow_succ]; omega
theorem three_pow2 {d : Nat} (h : 1 ≤ d) : d + 2 ≤ 3 ^ d := by have := three_pow d; omega
theorem three_pow3 (d : Nat) : d + 2 ≤ 2 * 3 ^ d := by have := three_pow d; omega
def GcB (k0 L K : Nat) (x y : List Int) : Prop := x.length ≤ L ∧ (y.length < x.length ∧ K + 2 ≤ 2 * (k0 + 2) * 3 ^ (L - x.length) ∨ K = k0 ∧ y.length ≤ L)
theorem gcB_big {k0 L K : Nat} {x y : List Int} (h : GcB k0 L K x y) {n : Nat} (hn : n ≤ x.length) : n * K + K + n * (K + 1) + 1 ≤ 2 * (k0 + 2) * 3 ^ L ∧ K ≤ 2 * (k0 + 2) * 3 ^ L := by
 have e : ∀ C : Nat, K + 2 ≤ C * 3 ^ (L - x.length) → n * K + K + n * (K + 1) + 1 ≤ C * 3 ^ L ∧ K ≤ C * 3 ^ L := by
  intro C hC
  have h1 : n * K + K + n * (K + 1) + 1 ≤ (2 * n + 1) * (K + 2) := by
   rw [Nat.add_mul, Nat.mul_add, Nat.mul_add, Nat.mul_assoc]
   omega
  have h2 : 2 * n + 1 ≤ 3 ^ x.length := Nat.le_trans (three_pow n) (Nat.pow_le_pow_right (by omega) hn)
  have h3 : (2 * n + 1) * (K + 2) ≤ 3 ^ x.length * (C * 3 ^ (L - x.length)) := Nat.mul_le_mul h2 hC
  have h4 : 3 ^ x.length * (C * 3 ^ (L - x.length)) = C * 3 ^ L := by
   rw [Nat.mul_left_comm, ← Nat.pow_add, show x.length + (L - x.length) = L by have := h.1; omega]
  have h5 : C * 3 ^ (L - x.length) ≤ C * 3 ^ L := Nat.mul_le_mul_left _ (Nat.pow_le_pow_right (by omega) (by omega))
  constructor <;> omega
 rcases h.2 with ⟨_, h2⟩ | ⟨h2, _⟩
 · exact e _ h2
 · refine e _ ?_
   have : 2 * (k0 + 2) * 1 ≤ 2 * (k0 + 2) * 3 ^ (L - x.length) := Nat.mul_le_mul_left _ (Nat.one_le_pow _ _ (by omega))
   omega
theorem gcB_step {k0 L K n : Nat} {x y r : List Int} (h : GcB k0 L K x y) (hn : n = x.length + 1 - y.length) (hy : y ≠ []) (hr : r.length < y.length) : GcB k0 L (K + n * (K + 1)) y r := by
 have ly := List.length_pos_iff.2 hy
 have hx := h.1
 have e : K + n * (K + 1) + 2 ≤ (n + 1) * (K + 2) := by
  rw [Nat.add_mul, Nat.mul_add, Nat.mul_add]
  omega
 rcases h.2 with ⟨h1, h2⟩ | ⟨h2, h3⟩
 · refine ⟨by omega, .inl ⟨hr, ?_⟩⟩
   obtain ⟨d, hd⟩ : ∃ d, d = x.length - y.length := ⟨_, rfl⟩
   have h4 : (n + 1) * (K + 2) ≤ 3 ^ d * (2 * (k0 + 2) * 3 ^ (L - x.length)) := Nat.mul_le_mul (by have := three_pow2 (d := d) (by omega); omega) h2
   rw [Nat.mul_left_comm, ← Nat.pow_add, show d + (L - x.length) = L - y.length by omega] at h4
   omega
 · refine ⟨h3, .inl ⟨hr, ?_⟩⟩
   subst h2
   by_cases hlt : x.length < y.length
   · have : n = 0 := by omega
     subst this
     have h5 : 2 * (K + 2) * 1 ≤ 2 * (K + 2) * 3 ^ (L - y.length) := Nat.mul_le_mul_left _ (Nat.one_le_pow _ _ (by omega))
     omega
   · obtain ⟨d, hd⟩ : ∃ d, d = x.length - y.length := ⟨_, rfl⟩
     have h4 : (n + 1) * (K + 2) ≤ (2 * 3 ^ d) * (K + 2) := Nat.mul_le_mul_right _ (by have := three_pow3 d; omega)
     have h5 : 2 * (K + 2) * 3 ^ d ≤ 2 * (K + 2) * 3 ^ (L - y.length) := Nat.mul_le_mul_left _ (Nat.pow_le_pow_right (by omega) (by omega))
     have h6 : (2 * 3 ^ d) * (K + 2) = 2 * (K + 2) * 3 ^ d := by rw [Nat.mul_assoc, Nat.mul_assoc, Nat.mul_comm (3 ^ d)]
     omega
theorem gdZ_co (a b : List Int) : gdZ a b = scL (Int.gcd (coL a) (coL b) : Int) (gdL (ppL a) (ppL b)) := by
 have h : ∀ l, (coL l).natAbs = gcL l := fun l => by rw [coL]; split <;> simp
 rw [gdZ, Int.gcd, h, h]
def GdS (k0 L : Nat) (F : List Int) (c : Int) (S : St) : Prop := ∃ (K : Nat) (x y : List Int), GcB k0 L K x y ∧ PL K x ∧ PL K y ∧ tr x = x ∧ tr y = y ∧ gdL x y = F ∧ S.σ 5 = .ptr 5 1 0 ∧ S.h 5 = ⟨1, some (.box 28 [.b (zn c), .sl none (uL (zl c))])⟩ ∧ S.σ 6 = .p (.sl (some 2) (PZ x)) ∧ S.σ 7 = .p (.sl (some 2) (PZ y))
set_option maxHeartbeats 1000000 in
theorem ggcd {k0 L : Nat} {vs ws : List V} {a b : List Int} (hv : IsP k0 vs a) (hw : IsP k0 ws b) (hn : vs.length ≤ L) (hn2 : ws.length ≤ L) (hL : L ≤ 2 ^ 16) (hC : 2 * (k0 + 2) * 3 ^ L ≤ 2 ^ 24) :
 Spec Tryz.prog f_zgcd_Gcd [.sl (some 2) vs, .sl (some 2) ws] (· = [.own 28 (some 2) (PZ (tr (gdZ a b)))]) := by
 have hk0 : k0 ≤ 2 ^ 24 := by
  have : 2 * (k0 + 2) * 1 ≤ 2 * (k0 + 2) * 3 ^ L := Nat.mul_le_mul_left _ (Nat.one_le_pow _ _ (by omega))
  omega
 have c1 := pcontent hv (by omega) (by omega)
 have c2 := pcontent hw (by omega) (by omega)
 have z1 := coL_len hv.pl
 have z2 := coL_len hw.pl
 have g := zgcd (isZ_of z1) (isZ_of z2) (by omega)
 have gl := gcd_len z1 z2
 have p1 := own_plain (pprim hv (by omega) (by omega))
 have p2 := own_plain (pprim hw (by omega) (by omega))
 have la : (ppL a).length ≤ L := by rw [ppL_len]; have := tr_len a; have := hv.len; omega
 have lb : (ppL b).length ≤ L := by rw [ppL_len]; have := tr_len b; have := hw.len; omega
 have hB : GcB k0 L k0 (ppL a) (ppL b) := ⟨la, .inr ⟨rfl, lb⟩⟩
 have q1 := pl_pp hv.pl
 have q2 := pl_pp hw.pl
 rw [gdZ_co]
 obtain ⟨c, hc⟩ : ∃ c, c = (Int.gcd (coL a) (coL b) : Int) := ⟨_, rfl⟩
 rw [← hc] at g gl ⊢
 obtain ⟨ca, hca⟩ : ∃ c, c = coL a := ⟨_, rfl⟩
 obtain ⟨cb, hcb⟩ : ∃ c, c = coL b := ⟨_, rfl⟩
 rw [← hca] at c1 g
 rw [← hcb] at c2 g
 have t1 := tr_ppL a
 have t2 := tr_ppL b
 obtain ⟨x0, hx0⟩ : ∃ x, x = ppL a := ⟨_, rfl⟩
 obtain ⟨y0, hy0⟩ : ∃ x, x = ppL b := ⟨_, rfl⟩
 obtain ⟨F, hF⟩ : ∃ F, F = gdL (ppL a) (ppL b) := ⟨_, rfl⟩
 rw [← hF]
 rw [← hx0] at p1 hB q1 t1 hF
 rw [← hy0] at p2 hB q2 t2 hF
 refine spec_at Tryz.func25 ok_zgcd_Gcd [true] rfl (by simp) ?_
 unfold sc_zgcd_Gcd
 refine Wr ?_; simp
 refine Wr ?_; simp
 refine callK c1 ?_; simp
 refine callK c2 ?_; simp
 refine callK g ?_; simp
 refine Wr ?_; simp
 refine callK p1 ?_; simp
 refine callK p2 ?_; simp
 refine WS_seq (WS_block ?_)
 refine WS_loop (GdS k0 L F c) (slL 7) ⟨k0, x0, y0, hB, q1, q2, t1, t2, hF.symm, by simp, by simp, by simp, by simp⟩ ?_
 clear p1 p2 g c1 c2 hB q1 q2 t1 t2 hF hx0 hy0 la lb
 rintro S ⟨K, x, y, hB, q1, q2, t1, t2, hg, s5, h5, s6, s7⟩
 have d7 := slL_eq s7
 rw [PZ_length] at d7
 have hyl := PZ_length y
 have hlx := hB.1
 by_cases hy0 : y = []
 · subst hy0
   rw [gdL_nil rfl] at hg
   subst hg
   have sc := pscale (isP_PZ q1) (isZ_of gl) (by have := (gcB_big hB (Nat.zero_le _)).2; omega) (by omega) (by rw [PZ_length]; omega)
   obtain ⟨X, hX⟩ : ∃ X, X = PZ x := ⟨_, rfl⟩
   rw [← hX] at sc s6
   obtain ⟨Y, hY⟩ : ∃ X, X = PZ [] := ⟨_, rfl⟩
   rw [← hY] at s7 hyl
   refine Ws ?_; simp [s5, h5, s6, s7, hyl]
   refine WS_cF (by simp [s5, h5, s6, s7, hyl]) ?_
   refine WS_exit ?_; simp [s5, h5, s6, s7, hyl]
   refine Wr ?_; simp [s5, h5, s6, s7, hyl]
   refine callK sc ?_; simp [s5, h5, s6, s7, hyl]
   refine WS_ret ?_; simp [s5, h5, s6, s7, hyl]
 · have ly := List.length_pos_iff.2 hy0
   have hyI : (0 : Int) < (y.length : Int) := by omega
   have hy1 : tr y ≠ [] := by rw [t2]; exact hy0
   have lyL : y.length ≤ L := by rcases hB.2 with ⟨h, _⟩ | ⟨_, h⟩ <;> omega
   have ps := gpseudo (isP_PZ q1) (isP_PZ q2) (by rw [PZ_length]; omega) (by rw [PZ_length]; omega) (fun n hn => by
    rw [t1, t2] at hn
    exact Nat.le_trans (gcB_big hB (by omega)).1 hC)
   rw [pseR, if_neg hy1] at ps
   obtain ⟨m1, m2, m3, m4⟩ := psD_lim q1 t1 q2 t2 hy0 rfl
   have hB2 : GcB k0 L _ y (ppL (psD x y).2) := gcB_step hB rfl hy0 (by rw [ppL_len]; exact m4)
   have big := (gcB_big hB2 (Nat.zero_le _)).2
   have pr := own_plain (pprim (isP_PZ m1) (by omega) (by rw [PZ_length]; omega))
   rw [ppL_eqp (cf_tr (psD x y).2)] at pr
   have hg2 : gdL y (ppL (psD x y).2) = F := by rw [← hg, gdL_step hy1]
   have m5 := pl_pp m1
   rw [ppL_eqp (cf_tr (psD x y).2)] at m5
   have m6 : (ppL (psD x y).2).length < y.length := by rw [ppL_len]; exact m4
   have m7 := tr_ppL (psD x y).2
   have mono : PL (K + (x.length + 1 - y.length) * (K + 1)) y := q2.mono (Nat.le_add_right _ _)
   obtain ⟨y', hy'⟩ : ∃ y', y' = ppL (psD x y).2 := ⟨_, rfl⟩
   rw [← hy'] at hB2 pr hg2 m5 m6 m7
   obtain ⟨R, hR⟩ : ∃ R, R = PZ (tr (psD x y).2) := ⟨_, rfl⟩
   rw [← hR] at ps pr
   obtain ⟨Q, hQ⟩ : ∃ R, R = PZ (tr (psD x y).1) := ⟨_, rfl⟩
   rw [← hQ] at ps
   obtain ⟨X, hX⟩ : ∃ X, X = PZ x := ⟨_, rfl⟩
   rw [← hX] at ps s6
   obtain ⟨Y, hY⟩ : ∃ X, X = PZ y := ⟨_, rfl⟩
   rw [← hY] at ps s7 hyl
   refine Ws ?_; simp [s5, h5, s6, s7, hyl, ly, hyI]
   refine WS_cT (by simp [s5, h5, s6, s7, hyl, ly, hyI]) ?_
   refine WS_skip ?_; simp [s5, h5, s6, s7, hyl, ly, hyI]
   refine WS_block (Wr ?_); simp [s5, h5, s6, s7, hyl, ly, hyI]
   refine callK ps ?_; simp [s5, h5, s6, s7, hyl, ly, hyI]
   refine WS_reg [] ?_; simp [s5, h5, s6, s7, hyl, ly, hyI]
   refine callK pr ?_; simp [s5, h5, s6, s7, hyl, ly, hyI]
   refine ⟨⟨_, y, y', hB2, mono, m5, t2, m7, hg2, by simp [s5], by simp [h5], by simp [hY], by simp⟩, ?_⟩
   rw [d7, slL_eq (i := 7) (sz := some 2) (xs := PZ y') (by simp), PZ_length]
   exact m6
def exP (r : List Int) (m : Int) : List Int := if m = 0 then [] else if ∀ x ∈ r, x % m = 0 then tr (r.map (· / m)) else []
def exV (x y : Int) : Int := if y = 0 then 0 else if x % y = 0 then x / y else 0
theorem exactR_exV (x y : Int) : ∃ e : Int, exactR x y = [.pure (Z (exV x y)), .pure (.i .i64 e)] := by
 unfold exactR exV
 split
 · exact ⟨_, rfl⟩
 · split
   · exact ⟨_, rfl⟩
   · exact ⟨_, rfl⟩
theorem cf_const (q : List Int) (m : Int) (i : Nat) : cf (mulL q [m]) i = cf q i * m := by
 rw [mulL_comm q [m] i, ← scL_eqp_mul m q i, cf_scL, Int.mul_comm]
theorem tr_single {m : Int} (h : m ≠ 0) : tr [m] = [m] := by simp [tr, h]
theorem pdivQ_exP (r : List Int) (m : Int) : ∃ e : Int, pdivQ r [m] = [.pure (.sl (some 2) (PZ (exP r m))), .pure (.i .i64 e)] := by
 by_cases hm : m = 0
 · subst hm
   exact ⟨3, by rw [pdivQ_zero (by decide)]; rfl⟩
 · have hb : tr [m] ≠ [] := by rw [tr_single hm]; simp
   by_cases hd : ∀ x ∈ r, x % m = 0
   · refine ⟨0, ?_⟩
     rw [pdivQ_some (q := r.map (· / m)) hb, exP, if_neg hm, if_pos hd]
     intro i
     rw [cf_const]
     by_cases hi : i < r.length
     · rw [cf_lt hi, cf_lt (by simpa using hi)]
       simp only [List.getElem_map]
       exact (Int.ediv_mul_cancel (Int.dvd_of_emod_eq_zero (hd _ (List.getElem_mem hi)))).symm
     · rw [cf_ge (by omega), cf_ge (by simp; omega), Int.zero_mul]
   · refine ⟨4, ?_⟩
     rw [pdivQ_none hb (pq_none fun q hq => hd fun x hx => ?_), exP, if_neg hm, if_neg hd]
     · rfl
     · obtain ⟨i, hi, rfl⟩ := List.mem_iff_getElem.1 hx
       have := hq i
       rw [cf_const, cf_lt hi] at this
       rw [this]; exact Int.mul_emod_left _ _
def sqc (a b : List Int) (g h : Int) (neg : Bool) : List V := [.sl (some 2) (PZ a), .sl (some 2) (PZ b), .b (zn g), .sl none (uL (zl g)), .b (zn h), .sl none (uL (zl h)), .b neg]
def oddL (a : List Int) : Bool := decide ((a.length - 1) % 2 = 1)
theorem odd_beq (n : Nat) : (((n : Int) % 2) == 1) = decide (n % 2 = 1) := by
 rcases Nat.mod_two_eq_zero_or_one n with h | h
 · have : (n : Int) % 2 = 0 := by omega
   simp [h, this]
 · have : (n : Int) % 2 = 1 := by omega
   simp [h, this]
def stH (b : List Int) (h : Int) (d : Nat) : Int := if 0 < d then exV (ldL b ^ d) (h ^ (d - 1)) else h
theorem gexact {k : Nat} {vs : List V} {a : List Int} {v : V} {c : Int} (hv : IsP k vs a) (hc : IsZ k v c) (hk : k ≤ 2 ^ 18) (hn : vs.length ≤ 2 ^ 5) : Spec Tryz.prog f_zgcd_exact [.sl (some 2) vs, v] (· = [.pure (.sl (some 2) (PZ (exP a c)))]) := by
 obtain ⟨n, d, rfl, hd, rfl⟩ := hc
 have ip : IsP k [zv n d] [zi n d] := ⟨rfl, fun i h => by
  have : i = 0 := by simpa using h
  subst this
  exact isZ_zv hd⟩
 have h1 : vs.length * (k + 1) ≤ 2 ^ 5 * (2 ^ 18 + 1) := Nat.mul_le_mul hn (by omega)
 have dv := pdivq hv ip (by omega) (by omega) (by simp) (by omega)
 obtain ⟨e, he⟩ := pdivQ_exP a (zi n d)
 rw [he] at dv
 obtain ⟨W, hW⟩ : ∃ W, W = PZ (exP a (zi n d)) := ⟨_, rfl⟩
 rw [← hW] at dv ⊢
 refine spec_at Tryz.func118 ok_zgcd_exact [] rfl (by simp) ?_
 unfold sc_zgcd_exact
 refine Wr ?_; simp
 refine WS_frz 3 3 (some 2) ?_
 simp [frzQ]
 refine Wr ?_; simp
 refine callK dv ?_; simp
 refine Wr ?_; simp
 refine WS_ret ?_; simp
set_option maxHeartbeats 2000000 in
theorem gstep {K : Nat} {a b : List Int} {g h : Int} {neg : Bool} (pa : PL K a) (pb : PL K b) (zg : zlen g ≤ K) (zh : zlen h ≤ K) (hK : K ≤ 2 ^ 13) (ta : tr a = a) (tb : tr b = b) (hab : b.length ≤ a.length) (hb : 1 ≤ b.length) (ha : a.length ≤ 16) :
 SpecG Tryz.prog f_zgcd_sequence_step (.box 75 (sqc a b g h neg)) [] (fun o gv => o = .box 75 (sqc b (exP (tr (psD a b).2) (g * h ^ (a.length - b.length))) (ldL b) (stH b h (a.length - b.length)) (neg != (oddL a && oddL b))) ∧ gv = []) := by
 have hb0 : b ≠ [] := List.length_pos_iff.1 hb
 have zl0 : zlen (ldL b) ≤ K := by rw [ldL_tr tb]; exact pb _
 obtain ⟨m1, m2, m3, m4⟩ := psD_lim pa ta pb tb hb0 rfl
 have hnn : ∀ n, n ≤ 17 → n * K + K + n * (K + 1) + 1 ≤ 2 ^ 19 := fun n hn => by
  have h1 : n * K ≤ 17 * 2 ^ 13 := Nat.mul_le_mul hn hK
  have h2 : n * (K + 1) ≤ 17 * (2 ^ 13 + 1) := Nat.mul_le_mul hn (by omega)
  omega
 have ps := gpseudo (isP_PZ pa) (isP_PZ pb) (by rw [PZ_length]; omega) (by rw [PZ_length]; omega) (fun n hn => by
  rw [ta, tb] at hn
  have := hnn n (by omega)
  omega)
 rw [pseR, if_neg (by rw [tb]; exact hb0)] at ps
 have hK1 := hnn (a.length + 1 - b.length) (by omega)
 have hK2 : K + (a.length + 1 - b.length) * (K + 1) ≤ 2 ^ 18 := by
  have : (a.length + 1 - b.length) * (K + 1) ≤ 17 * (2 ^ 13 + 1) := Nat.mul_le_mul (by omega) (by omega)
  omega
 obtain ⟨A, hA⟩ : ∃ A, a.length = A + 1 := ⟨a.length - 1, by omega⟩
 obtain ⟨B, hB⟩ : ∃ A, b.length = A + 1 := ⟨b.length - 1, by omega⟩
 have hg0 := PZ_get b B (by rw [PZ_length]; omega)
 rw [show cf b B = ldL b by rw [ldL_tr tb, hB]; rfl] at hg0
 have oa : oddL a = decide (A % 2 = 1) := by rw [oddL, hA]; rfl
 have ob : oddL b = decide (B % 2 = 1) := by rw [oddL, hB]; rfl
 obtain ⟨d, hd⟩ : ∃ d, d = a.length - b.length := ⟨_, rfl⟩
 rw [← hd]
 have hd16 : d ≤ 16 := by omega
 have hdK : d * K ≤ 16 * 2 ^ 13 := Nat.mul_le_mul hd16 hK
 have pw1 := gpow (isZ_of zh) d (by omega) (by omega) (by omega)
 have pl1 : zlen (h ^ d) ≤ d * K + 1 := by
  have h1 := zlen_pow h d
  have h2 := Nat.mul_le_mul_left d zh
  omega
 have mu := zmul (isZ_of (x := g) (k := 2 ^ 18) (by omega)) (isZ_of (x := h ^ d) (k := 2 ^ 18) (by omega)) (by omega)
 have ml := zlen_mul g (h ^ d)
 have ex := gexact (isP_PZ (m1.mono (show _ ≤ 2 ^ 18 by omega))) (isZ_of (x := g * h ^ d) (k := 2 ^ 18) (by omega)) (by omega) (by rw [PZ_length]; omega)
 have al := PZ_length a
 have bl := PZ_length b
 rw [hA] at al
 rw [hB] at bl
 rw [oa, ob]
 have dA := gdeg (sz := some 2) (PZ a) (by omega)
 have dB := gdeg (sz := some 2) (PZ b) (by omega)
 rw [al, show ((A + 1 : Nat) : Int) - 1 = (A : Int) by omega] at dA
 rw [bl, show ((B + 1 : Nat) : Int) - 1 = (B : Int) by omega] at dB
 have wd : IntKind.i64.wrap ((A : Int) - (B : Int)) = (d : Int) := by rw [show (A : Int) - (B : Int) = (d : Int) by omega]; exact i64_nat _ (by omega)
 have tA : (A : Int).tmod 2 = ((A % 2 : Nat) : Int) := rfl
 have tB : (B : Int).tmod 2 = ((B % 2 : Nat) : Int) := rfl
 have hBI : (B : Int) < (B : Int) + 1 := by omega
 obtain ⟨rr, hrr⟩ : ∃ r, r = tr (psD a b).2 := ⟨_, rfl⟩
 rw [← hrr] at ps ex ⊢
 obtain ⟨m, hm⟩ : ∃ m, m = g * h ^ d := ⟨_, rfl⟩
 rw [← hm] at mu ex ⊢
 obtain ⟨hp, hhp⟩ : ∃ m, m = h ^ d := ⟨_, rfl⟩
 rw [← hhp] at mu pw1
 obtain ⟨q1, hq1⟩ : ∃ m, m = tr (psD a b).1 := ⟨_, rfl⟩
 rw [← hq1] at ps
 obtain ⟨e, he⟩ : ∃ e, e = exP rr m := ⟨_, rfl⟩
 rw [← he] at ex ⊢
 obtain ⟨WA, wA⟩ : ∃ W, W = PZ a := ⟨_, rfl⟩
 obtain ⟨WB, wB⟩ : ∃ W, W = PZ b := ⟨_, rfl⟩
 obtain ⟨WR, wR⟩ : ∃ W, W = PZ rr := ⟨_, rfl⟩
 obtain ⟨WQ, wQ⟩ : ∃ W, W = PZ q1 := ⟨_, rfl⟩
 obtain ⟨WE, wE⟩ : ∃ W, W = PZ e := ⟨_, rfl⟩
 rw [← wA] at dA al ps
 rw [← wB] at dB bl ps
 rw [← wR] at ps ex
 rw [← wQ] at ps
 rw [← wE] at ex
 simp only [← wB] at hg0
 rw [sqc, sqc, ← wA, ← wB, ← wE]
 obtain ⟨l, hl⟩ : ∃ l, l = ldL b := ⟨_, rfl⟩
 rw [stH, ← hl]
 rw [← hl] at hg0 zl0
 clear hnn hK1 hdK ml pl1 m1 m2 m3 m4 oa ob hrr hm hhp hq1 he
 obtain ⟨ng, hng⟩ : ∃ n, n = (neg != (decide (A % 2 = 1) && decide (B % 2 = 1))) := ⟨_, rfl⟩
 rw [← hng]
 have key : ∀ S : St, S.σ 0 = .ptr 999 0 0 → S.σ 2 = .p (.i .i64 (d : Int)) → S.h 999 = ⟨0, some (.box 75 [.sl (some 2) WA, .sl (some 2) WB, .b (zn g), .sl none (uL (zl g)), .b (zn h), .sl none (uL (zl h)), .b ng])⟩ →
  WS Tryz.prog 113 sc_zgcd_sequence_step.snd.snd (retQG [] 1 (fun o gv => o = .box 75 [.sl (some 2) WB, .sl (some 2) WE, .b (zn l), .sl none (uL (zl l)), .b (zn (if 0 < d then exV (l ^ d) (h ^ (d - 1)) else h)), .sl none (uL (zl (if 0 < d then exV (l ^ d) (h ^ (d - 1)) else h))), .b ng] ∧ gv = [])) S := by
  intro S s0 s2 h9
  unfold sc_zgcd_sequence_step
  simp only [SC.snd]
  by_cases hd0 : 0 < d
  · have hdI : (0 : Int) < (d : Int) := by omega
    have w1 : IntKind.i64.wrap ((d : Int) - 1) = ((d - 1 : Nat) : Int) := by rw [show (d : Int) - 1 = ((d - 1 : Nat) : Int) by omega]; exact i64_nat _ (by omega)
    have hdK : d * K ≤ 16 * 2 ^ 13 := Nat.mul_le_mul hd16 hK
    have hdK2 : (d - 1) * K ≤ 16 * 2 ^ 13 := Nat.mul_le_mul (by omega) hK
    have pw2 := gpow (isZ_of zl0) d (by omega) (by omega) (by omega)
    have pw3 := gpow (isZ_of zh) (d - 1) (by omega) (by omega) (by omega)
    have pl2 := zlen_pow l d
    have pl3 := zlen_pow h (d - 1)
    have h2 := Nat.mul_le_mul_left d zl0
    have h3 := Nat.mul_le_mul_left (d - 1) zh
    have ex2 := zexact (isZ_of (x := l ^ d) (k := 2 ^ 18) (by omega)) (isZ_of (x := h ^ (d - 1)) (k := 2 ^ 18) (by omega)) (by omega)
    obtain ⟨e2, he2⟩ := exactR_exV (l ^ d) (h ^ (d - 1))
    rw [he2] at ex2
    rw [if_pos hd0]
    clear pl2 pl3 h2 h3 hdK hdK2 he2
    obtain ⟨u, hu⟩ : ∃ u, u = exV (l ^ d) (h ^ (d - 1)) := ⟨_, rfl⟩
    rw [← hu] at ex2 ⊢
    obtain ⟨p2, hp2⟩ : ∃ u, u = l ^ d := ⟨_, rfl⟩
    rw [← hp2] at ex2 pw2
    obtain ⟨p3, hp3⟩ : ∃ u, u = h ^ (d - 1) := ⟨_, rfl⟩
    rw [← hp3] at ex2 pw3
    refine WS_seq (WS_regD [] ?_); simp [s0, s2, h9, hg0, bl, hBI, hdI, hd0, w1]
    refine callD ps rfl ?_; simp [s0, s2, h9, hg0, bl, hBI, hdI, hd0, w1]
    refine ⟨rfl, ?_⟩
    refine WS_seq (WS_regD [] ?_); simp [s0, s2, h9, hg0, bl, hBI, hdI, hd0, w1]
    refine callD pw1 rfl ?_; simp [s0, s2, h9, hg0, bl, hBI, hdI, hd0, w1]
    refine callD mu rfl ?_; simp [s0, s2, h9, hg0, bl, hBI, hdI, hd0, w1]
    refine callD ex rfl ?_; simp [s0, s2, h9, hg0, bl, hBI, hdI, hd0, w1]
    refine ⟨rfl, ?_⟩
    refine WS_seq (WS_regD [] ?_); simp [s0, s2, h9, hg0, bl, hBI, hdI, hd0, w1]
    refine callD dB rfl ?_; simp [s0, s2, h9, hg0, bl, hBI, hdI, hd0, w1]
    refine ⟨rfl, ?_⟩
    refine Wr ?_; simp [s0, s2, h9, hg0, bl, hBI, hdI, hd0, w1]
    refine WS_cT (by simp [s0, s2, h9, hg0, bl, hBI, hdI, hd0, w1]) ?_
    refine WS_regD [] ?_; simp [s0, s2, h9, hg0, bl, hBI, hdI, hd0, w1]
    refine callD pw2 rfl ?_; simp [s0, s2, h9, hg0, bl, hBI, hdI, hd0, w1]
    refine callD pw3 rfl ?_; simp [s0, s2, h9, hg0, bl, hBI, hdI, hd0, w1]
    refine callD ex2 rfl ?_; simp [s0, s2, h9, hg0, bl, hBI, hdI, hd0, w1]
    rfl
  · have hdI : ¬ (0 : Int) < (d : Int) := by omega
    rw [if_neg hd0]
    refine WS_seq (WS_regD [] ?_); simp [s0, s2, h9, hg0, bl, hBI, hdI, hd0]
    refine callD ps rfl ?_; simp [s0, s2, h9, hg0, bl, hBI, hdI, hd0]
    refine ⟨rfl, ?_⟩
    refine WS_seq (WS_regD [] ?_); simp [s0, s2, h9, hg0, bl, hBI, hdI, hd0]
    refine callD pw1 rfl ?_; simp [s0, s2, h9, hg0, bl, hBI, hdI, hd0]
    refine callD mu rfl ?_; simp [s0, s2, h9, hg0, bl, hBI, hdI, hd0]
    refine callD ex rfl ?_; simp [s0, s2, h9, hg0, bl, hBI, hdI, hd0]
    refine ⟨rfl, ?_⟩
    refine WS_seq (WS_regD [] ?_); simp [s0, s2, h9, hg0, bl, hBI, hdI, hd0]
    refine callD dB rfl ?_; simp [s0, s2, h9, hg0, bl, hBI, hdI, hd0]
    refine ⟨rfl, ?_⟩
    refine Wr ?_; simp [s0, s2, h9, hg0, bl, hBI, hdI, hd0]
    refine WS_cF (by simp [s0, s2, h9, hg0, bl, hBI, hdI, hd0]) ?_
    refine WS_skip ?_; simp [s0, s2, h9, hg0, bl, hBI, hdI, hd0]
 unfold sc_zgcd_sequence_step at key
 simp only [SC.snd] at key
 refine specG_at Tryz.func63 ok_zgcd_sequence_step (by simp) ?_
 unfold sc_zgcd_sequence_step
 by_cases hA2 : A % 2 = 1
 · refine WS_seq (WS_regD [] ?_); simp [wd, tA, tB, hA2]
   refine callD dA rfl ?_; simp [wd, tA, tB, hA2]
   refine callD dB rfl ?_; simp [wd, tA, tB, hA2]
   refine ⟨rfl, ?_⟩
   refine WS_seq (WS_regD [] ?_); simp [wd, tA, tB, hA2]
   refine callD dA rfl ?_; simp [wd, tA, tB, hA2]
   refine callD dB rfl ?_; simp [wd, tA, tB, hA2]
   refine ⟨rfl, ?_⟩
   refine key _ ?_ ?_ ?_
   · simp
   · simp
   · simp [hng, hA2, odd_beq]
 · have hA3 : A % 2 = 0 := by omega
   refine WS_seq (WS_regD [] ?_); simp [wd, tA, tB, hA3]
   refine callD dA rfl ?_; simp [wd, tA, tB, hA3]
   refine callD dB rfl ?_; simp [wd, tA, tB, hA3]
   refine ⟨rfl, ?_⟩
   refine WS_seq (WS_regD [] ?_); simp [wd, tA, tB, hA3]
   refine callD dA rfl ?_; simp [wd, tA, tB, hA3]
   refine ⟨rfl, ?_⟩
   refine key _ ?_ ?_ ?_
   · simp
   · simp
   · simp [hng, hA3, odd_beq]
def AwI (S : St) (A B : List V) : Prop := S.σ 7 = .ptr 53 1 0 ∧ S.σ 8 = .bnd f_zgcd_sequence_step 53 1 ∧ S.σ 6 = .ptr 6 1 0 ∧ S.h 6 = ⟨1, some (.box 28 [.b (zn 1), .sl none (uL (zl 1))])⟩ ∧ S.σ 4 = .ptr 4 1 0 ∧ S.h 4 = ⟨1, some (.box 28 [.b false, .sl none []])⟩ ∧
 S.h 53 = ⟨1, some (.box 75 [.sl (some 2) A, .sl (some 2) B, .b (zn 1), .sl none (uL (zl 1)), .b (zn 1), .sl none (uL (zl 1)), .b false])⟩
def AwS (A B C : List V) (S : St) : Prop := AwI S A B ∨ AwI S B C
def awM (S : St) : Nat := match (S.h 53).o with | some (.box _ (_ :: .sl _ xs :: _)) => xs.length | _ => 0
theorem awM_eq {A B : List V} {S : St} (h : AwI S A B) : awM S = B.length := by
 obtain ⟨_, _, _, _, _, _, h⟩ := h
 simp only [awM, h]
set_option maxHeartbeats 2000000 in
theorem res_awake : Spec Tryz.prog f_zgcd_Resultant [.sl (some 2) (PZ [-2, 0, 1]), .sl (some 2) (PZ [-3, 0, 1])] (· = [.pure (Z 1), .pure (.i .i64 0)]) := by
 have s1 : Sml [-2, 0, 1] := by decide
 have s2 : Sml [-3, 0, 1] := by decide
 have i1 := isP_PZ (pl_small s1)
 have i2 := isP_PZ (pl_small s2)
 have n1 := own_plain (pnorm i1 (by omega) (by rw [PZ_length]; decide))
 have n2 := own_plain (pnorm i2 (by omega) (by rw [PZ_length]; decide))
 rw [show tr [-2, 0, 1] = [-2, 0, 1] by decide] at n1
 rw [show tr [-3, 0, 1] = [-3, 0, 1] by decide] at n2
 have c1 := pcontent i1 (by omega) (by rw [PZ_length]; decide)
 have c2 := pcontent i2 (by omega) (by rw [PZ_length]; decide)
 rw [show coL [-2, 0, 1] = 1 by decide] at c1
 rw [show coL [-3, 0, 1] = 1 by decide] at c2
 have p1 := own_plain (pprim i1 (by omega) (by rw [PZ_length]; decide))
 have p2 := own_plain (pprim i2 (by omega) (by rw [PZ_length]; decide))
 rw [show ppL [-2, 0, 1] = [-2, 0, 1] by decide] at p1
 rw [show ppL [-3, 0, 1] = [-3, 0, 1] by decide] at p2
 have o0 := zof 0 (by omega) (by omega)
 have o1 := zof 1 (by omega) (by omega)
 have pw2 := gpow (isZ_of zlen_one) 2 (by omega) (by omega) (by omega)
 have pw1 := gpow (isZ_of zlen_one) 1 (by omega) (by omega) (by omega)
 rw [show (1 : Int) ^ 2 = 1 by decide] at pw2
 rw [show (1 : Int) ^ 1 = 1 by decide] at pw1
 have mu := zmul (isZ_of zlen_one) (isZ_of zlen_one) (by omega)
 rw [show (1 : Int) * 1 = 1 by decide] at mu
 have ex := zexact (isZ_of zlen_one) (isZ_of zlen_one) (by omega)
 rw [show exactR 1 1 = [.pure (Z 1), .pure (.i .i64 0)] by rw [exactR, if_neg (by decide), if_pos (by decide)]; rfl] at ex
 have st := gstep (K := 1) (a := [-2, 0, 1]) (b := [-3, 0, 1]) (g := 1) (h := 1) (neg := false) (pl_small s1) (pl_small s2) zlen_one zlen_one (by omega) (by decide) (by decide) (by decide) (by decide) (by decide)
 rw [show exP (tr (psD [-2, 0, 1] [-3, 0, 1]).2) (1 * 1 ^ (List.length [(-2 : Int), 0, 1] - List.length [(-3 : Int), 0, 1])) = [1] by decide, show ldL [-3, 0, 1] = 1 by decide, show stH [-3, 0, 1] 1 (List.length [(-2 : Int), 0, 1] - List.length [(-3 : Int), 0, 1]) = 1 by decide,
  show (false != (oddL [-2, 0, 1] && oddL [-3, 0, 1])) = false by decide, sqc, sqc] at st
 have l1 : (PZ [-2, 0, 1]).length = 3 := by rw [PZ_length]; rfl
 have l2 : (PZ [-3, 0, 1]).length = 3 := by rw [PZ_length]; rfl
 have d1 := gdeg (sz := some 2) (PZ [-2, 0, 1]) (by omega)
 have d2 := gdeg (sz := some 2) (PZ [-3, 0, 1]) (by omega)
 rw [l1, show ((3 : Nat) : Int) - 1 = 2 by decide] at d1
 rw [l2, show ((3 : Nat) : Int) - 1 = 2 by decide] at d2
 have d3 := gdeg (sz := some 2) (PZ [1]) (by rw [PZ_length]; decide)
 rw [show ((PZ [1]).length : Int) - 1 = 0 by rw [PZ_length]; decide] at d3
 rw [show PZ [1] = [.agg [.b (zn 1), .sl none (uL (zl 1))]] from rfl] at d3 st
 obtain ⟨A, hA⟩ : ∃ A, A = PZ [-2, 0, 1] := ⟨_, rfl⟩
 obtain ⟨B, hB⟩ : ∃ A, A = PZ [-3, 0, 1] := ⟨_, rfl⟩
 rw [← hA] at n1 c1 p1 d1 l1 st ⊢
 rw [← hB] at n2 c2 p2 d2 l2 st ⊢
 clear hA hB i1 i2
 refine spec_at Tryz.func16 ok_zgcd_Resultant [] rfl (by simp) ?_
 unfold sc_zgcd_Resultant
 refine Wr ?_; simp [l1, l2]
 refine Wr ?_; simp [l1, l2]
 refine callK n1 ?_; simp [l1, l2]
 refine callK n2 ?_; simp [l1, l2]
 refine WS_seq (WS_block (Wr ?_)); simp [l1, l2]
 refine WS_cF (by simp [l1, l2]) ?_
 refine Wr ?_; simp [l1, l2]
 refine WS_cF (by simp [l1, l2]) ?_
 refine WS_skip ?_; simp [l1, l2]
 refine Wr ?_; simp [l1, l2]
 refine callK c1 ?_; simp [l1, l2]
 refine callK d2 ?_; simp [l1, l2]
 refine callK pw2 ?_; simp [l1, l2]
 refine callK c2 ?_; simp [l1, l2]
 refine callK d1 ?_; simp [l1, l2]
 refine callK pw2 ?_; simp [l1, l2]
 refine callK mu ?_; simp [l1, l2]
 refine Wr ?_; simp [l1, l2]
 refine callK p1 ?_; simp [l1, l2]
 refine callK p2 ?_; simp [l1, l2]
 refine callK o1 ?_; simp [l1, l2]
 refine callK o1 ?_; simp [l1, l2]
 refine Ws ?_; simp [l1, l2]
 refine WS_cF (by simp [l1, l2]) ?_
 refine WS_skip ?_; simp [l1, l2]
 refine Ws ?_; simp [l1, l2]
 refine WS_block ?_
 refine WS_loop (AwS A B [.agg [.b (zn 1), .sl none (uL (zl 1))]]) awM (.inl ⟨by simp, by simp, by simp, by simp, by simp, by simp, by simp⟩) ?_
 rintro S (hS | hS)
 · have dm := awM_eq hS
   obtain ⟨s7, s8, s6, h6, s4, h4, h53⟩ := hS
   refine Ws ?_; simp [s7, s8, s6, h6, s4, h4, h53, l2]
   refine callK d2 ?_; simp [s7, s8, s6, h6, s4, h4, h53, l2]
   refine WS_cT (by simp [s7, s8, s6, h6, s4, h4, h53, l2]) ?_
   refine WS_skip ?_; simp [s7, s8, s6, h6, s4, h4, h53, l2]
   refine WS_block (WS_reg [] ?_); simp [s7, s8, s6, h6, s4, h4, h53, l2]
   refine callG st ?_; simp [s7, s8, s6, h6, s4, h4, h53, l2]
   have hN : ∀ T : St, AwI T B [.agg [.b (zn 1), .sl none (uL (zl 1))]] → AwS A B [.agg [.b (zn 1), .sl none (uL (zl 1))]] T ∧ awM T < awM S := fun T hT => ⟨.inr hT, by rw [awM_eq hT, dm, l2]; simp⟩
   refine hN _ ⟨by simp [s7], by simp [s8], by simp [s6], by simp [h6], by simp [s4], by simp [h4], by simp⟩
 · obtain ⟨s7, s8, s6, h6, s4, h4, h53⟩ := hS
   refine Ws ?_; simp [s7, s8, s6, h6, s4, h4, h53, l2]
   refine callK d3 ?_; simp [s7, s8, s6, h6, s4, h4, h53, l2]
   refine WS_cF (by simp [s7, s8, s6, h6, s4, h4, h53, l2]) ?_
   refine WS_exit ?_; simp [s7, s8, s6, h6, s4, h4, h53, l2]
   refine Ws ?_; simp [s7, s8, s6, h6, s4, h4, h53, l2]
   refine WS_cF (by simp [s7, s8, s6, h6, s4, h4, h53, l2]) ?_
   refine WS_skip ?_; simp [s7, s8, s6, h6, s4, h4, h53, l2]
   refine WS_seq (WS_regD [] ?_); simp [s7, s8, s6, h6, s4, h4, h53, l2]
   refine callD d2 rfl ?_; simp [s7, s8, s6, h6, s4, h4, h53, l2]
   refine callD pw2 rfl ?_; simp [s7, s8, s6, h6, s4, h4, h53, l2]
   refine ⟨rfl, ?_⟩
   refine Ws ?_; simp [s7, s8, s6, h6, s4, h4, h53, l2]
   refine callK d2 ?_; simp [s7, s8, s6, h6, s4, h4, h53, l2]
   refine Wr ?_; simp [s7, s8, s6, h6, s4, h4, h53, l2]
   refine WS_cT (by simp [s7, s8, s6, h6, s4, h4, h53, l2]) ?_
   refine WS_regD [] ?_; simp [s7, s8, s6, h6, s4, h4, h53, l2]
   refine callD pw1 rfl ?_; simp [s7, s8, s6, h6, s4, h4, h53, l2]
   refine callD ex rfl ?_; simp [s7, s8, s6, h6, s4, h4, h53, l2]
   refine ⟨rfl, ?_⟩
   refine Wr ?_; simp [s7, s8, s6, h6, s4, h4, h53, l2]
   refine callK mu ?_; simp [s7, s8, s6, h6, s4, h4, h53, l2]
   refine Ws ?_; simp [s7, s8, s6, h6, s4, h4, h53, l2]
   refine WS_cF (by simp [s7, s8, s6, h6, s4, h4, h53, l2]) ?_
   refine WS_skip ?_; simp [s7, s8, s6, h6, s4, h4, h53, l2]
   refine Wr ?_; simp [s7, s8, s6, h6, s4, h4, h53, l2]
   refine WS_ret ?_; simp [s7, s8, s6, h6, s4, h4, h53, l2]
theorem isP_small {n w : Nat} {M : List (Bool × List Nat)} (hdl : ∀ p ∈ M, ZW (2 ^ 24) p.2) (h : (decide (M.length ≤ n) && smR w M) = true) : IsP w (zL M) (piL M) ∧ (zL M).length ≤ n := by
 simp only [Bool.and_eq_true, decide_eq_true_eq, smR, List.all_eq_true] at h
 exact ⟨isP_zL fun p hp => ⟨(hdl p hp).dl, h.2 p hp⟩, by simp [zL]; omega⟩
end Go.Vw
