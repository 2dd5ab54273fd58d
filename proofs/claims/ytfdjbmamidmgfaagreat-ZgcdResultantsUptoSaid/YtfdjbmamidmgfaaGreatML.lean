/- The contracts of the laws of layer 11 and 12 and 14. -/
import Derived.Test.YtfdjbmamidmgfaaGreatMA
import Derived.Test.YtfdjbmamidmgfaaGreatMB
import Derived.Test.YtfdjbmamidmgfaaGreatMC
import Derived.Test.YtfdjbmamidmgfaaGreatMD
import Derived.Test.YtfdjbmamidmgfaaGreatME
import Derived.Test.YtfdjbmamidmgfaaGreatMF
import Derived.Test.YtfdjbmamidmgfaaGreatMG
import Derived.Test.YtfdjbmamidmgfaaGreatMP
import Derived.Test.YtfdjbmamidmgfaaGreatMR
set_option linter.unusedVariables false
set_option linter.unusedSimpArgs false
namespace Go.Vw
open Go.Proofs Go.Py
attribute [local simp] zv V.fits fillOk fillV Z_eq
set_option maxHeartbeats 1000000 in
theorem small11 (n w : Nat) (hn : n ≤ 2 ^ 40) (hw : w ≤ 2 ^ 40) (Ms : List (List (Bool × List Nat))) (hM : Ms.length ≤ 2 ^ 40) (hMs : ∀ M ∈ Ms, M.length ≤ 2 ^ 40) : Spec Tryz.prog f_law11_small [.i .i64 (n : Int), .i .i64 (w : Int), .sl none (mL Ms)] (· = [.pure (.b (smB n w Ms))]) := by
 have hml : (mL Ms).length = Ms.length := by simp [mL]
 refine spec_at Tryz.func15 ok_law11_small [] rfl (by simp) ?_
 unfold sc_law11_small
 refine Wr ?_; simp
 refine Ws ?_; simp
 refine WS_block ?_
 refine WS_loop (SmS n w Ms) (fun S => Ms.length - nM 7 S) ⟨0, by omega, rfl, rfl, rfl, rfl, rfl⟩ ?_
 rintro S ⟨i, hi, s0, s1, s2, s7, hall⟩
 have d7 := nM_eq s7
 by_cases hlt : i < Ms.length
 · have hltI : (i : Int) < (Ms.length : Int) := by omega
   have hml2 : i < (mL Ms).length := by omega
   have hget : (mL Ms)[i] = .sl (some 2) (zL Ms[i]) := by simp [mL]
   have hmem := List.getElem_mem hlt
   have htk := List.take_succ_eq_append_getElem hlt
   obtain ⟨M, hMe⟩ : ∃ M, M = Ms[i] := ⟨_, rfl⟩
   rw [← hMe] at hget hmem htk
   have hMl := hMs M hmem
   have hzl : (zL M).length = M.length := by simp [zL]
   have wi := i64_succ i (by omega)
   obtain ⟨O, hO⟩ : ∃ O, O = mL Ms := ⟨_, rfl⟩
   have hOl : i < O.length := by rw [hO]; omega
   have hg2 : O[i] = .sl (some 2) (zL M) := by simp only [hO]; exact hget
   rw [← hO] at hml s2
   by_cases hb : M.length ≤ n
   · have hbI : ¬ (n : Int) < (M.length : Int) := by omega
     refine Ws ?_; simp [s0, s1, s2, s7, hlt, hltI, hml, hg2, hzl, hbI]
     refine WS_cT (by simp [s0, s1, s2, s7, hlt, hltI, hml, hg2, hzl, hbI]) ?_
     refine WS_skip ?_; simp [s0, s1, s2, s7, hlt, hltI, hml, hg2, hzl, hbI]
     refine WS_seq (WS_block (Ws ?_)); simp [s0, s1, s2, s7, hlt, hltI, hml, hg2, hzl, hbI]
     refine WS_cF (by simp [s0, s1, s2, s7, hlt, hltI, hml, hg2, hzl, hbI]) ?_
     refine WS_skip ?_; simp [s0, s1, s2, s7, hlt, hltI, hml, hg2, hzl, hbI]
     refine Wr ?_; simp [s0, s1, s2, s7, hlt, hltI, hml, hg2, hzl, hbI]
     refine WS_block ?_
     refine WS_loop (SmJ n w Ms i M) (fun S => M.length - nM 8 S) ⟨0, by omega, by simp, rfl, by simp [s0], by simp [s1], by simp [s2, hO], by simp [s7], hall⟩ ?_
     clear s0 s1 s2 s7
     rintro S' ⟨k, hk, s8, hr, s0, s1, s2, s7, -⟩
     have d8 := nM_eq s8
     rw [← hO] at s2
     by_cases hlt2 : k < M.length
     · have hltI2 : (k : Int) < (M.length : Int) := by omega
       have hzk : k < (zL M).length := by omega
       have hgk : (zL M)[k] = .agg [.b M[k].1, .sl none (uL M[k].2)] := by simp [zL]
       have htk2 := List.take_succ_eq_append_getElem hlt2
       have hmem2 := List.getElem_mem hlt2
       obtain ⟨p, hp⟩ : ∃ p, p = M[k] := ⟨_, rfl⟩
       rw [← hp] at hgk htk2 hmem2
       have wk := i64_succ k (by omega)
       obtain ⟨Z1, hZ1⟩ : ∃ O, O = zL M := ⟨_, rfl⟩
       have hZl : k < Z1.length := by rw [hZ1]; omega
       have hg3 : Z1[k] = .agg [.b p.1, .sl none (uL p.2)] := by simp only [hZ1]; exact hgk
       rw [← hZ1] at hzl hg2
       by_cases hq : p.2.length ≤ w
       · have hqI : ¬ (w : Int) < (p.2.length : Int) := by omega
         refine Ws ?_; simp [s0, s1, s2, s7, s8, hlt, hltI, hlt2, hltI2, hml, hg2, hzl, hg3, hqI, wk]
         refine WS_cT (by simp [s0, s1, s2, s7, s8, hlt, hltI, hlt2, hltI2, hml, hg2, hzl, hg3, hqI, wk]) ?_
         refine WS_skip ?_; simp [s0, s1, s2, s7, s8, hlt, hltI, hlt2, hltI2, hml, hg2, hzl, hg3, hqI, wk]
         refine WS_seq (WS_block (Wr ?_)); simp [s0, s1, s2, s7, s8, hlt, hltI, hlt2, hltI2, hml, hg2, hzl, hg3, hqI, wk]
         refine WS_cF (by simp [s0, s1, s2, s7, s8, hlt, hltI, hlt2, hltI2, hml, hg2, hzl, hg3, hqI, wk]) ?_
         refine WS_skip ?_; simp [s0, s1, s2, s7, s8, hlt, hltI, hlt2, hltI2, hml, hg2, hzl, hg3, hqI, wk]
         refine WS_reg [] ?_; simp [s0, s1, s2, s7, s8, hlt, hltI, hlt2, hltI2, hml, hg2, hzl, hg3, hqI, wk]
         refine ⟨⟨k + 1, by omega, by simp, by rw [htk2]; exact smR_snoc hr hq, by simp [s0], by simp [s1], by simp [s2, hO], by simp [s7], hall⟩, ?_⟩
         show M.length - nM 8 _ < M.length - nM 8 S'
         rw [d8, nM_eq (i := 8) (n := k + 1) (by simp)]
         omega
       · have hqI : (w : Int) < (p.2.length : Int) := by omega
         have hno : smR w M = false := by
          rw [smR, List.all_eq_false]
          exact ⟨p, hmem2, by simp; omega⟩
         rw [smB_false hmem (by rw [hno, Bool.and_false])]
         refine Ws ?_; simp [s0, s1, s2, s7, s8, hlt, hltI, hlt2, hltI2, hml, hg2, hzl, hg3, hqI, wk]
         refine WS_cT (by simp [s0, s1, s2, s7, s8, hlt, hltI, hlt2, hltI2, hml, hg2, hzl, hg3, hqI, wk]) ?_
         refine WS_skip ?_; simp [s0, s1, s2, s7, s8, hlt, hltI, hlt2, hltI2, hml, hg2, hzl, hg3, hqI, wk]
         refine WS_seq (WS_block (Wr ?_)); simp [s0, s1, s2, s7, s8, hlt, hltI, hlt2, hltI2, hml, hg2, hzl, hg3, hqI, wk]
         refine WS_cT (by simp [s0, s1, s2, s7, s8, hlt, hltI, hlt2, hltI2, hml, hg2, hzl, hg3, hqI, wk]) ?_
         refine Wr ?_; simp [s0, s1, s2, s7, s8, hlt, hltI, hlt2, hltI2, hml, hg2, hzl, hg3, hqI, wk]
         refine WS_ret ?_; simp [s0, s1, s2, s7, s8, hlt, hltI, hlt2, hltI2, hml, hg2, hzl, hg3, hqI, wk]
     · obtain rfl : k = M.length := by omega
       have hltI2 : ¬ (M.length : Int) < (M.length : Int) := by omega
       rw [List.take_length] at hr
       refine Ws ?_; simp [s0, s1, s2, s7, s8, hlt, hltI, hltI2, hml, hg2, hzl, wi]
       refine WS_cF (by simp [s0, s1, s2, s7, s8, hlt, hltI, hltI2, hml, hg2, hzl, wi]) ?_
       refine WS_exit ?_; simp [s0, s1, s2, s7, s8, hlt, hltI, hltI2, hml, hg2, hzl, wi]
       refine WS_reg [] ?_; simp [s0, s1, s2, s7, s8, hlt, hltI, hltI2, hml, hg2, hzl, wi]
       refine ⟨⟨i + 1, by omega, by simp [s0], by simp [s1], by simp [s2, hO], by simp, by rw [htk]; exact smB_snoc hall hb hr⟩, ?_⟩
       show Ms.length - nM 7 _ < Ms.length - nM 7 S
       rw [d7, nM_eq (i := 7) (n := i + 1) (by simp)]
       omega
   · have hbI : (n : Int) < (M.length : Int) := by omega
     rw [smB_false hmem (by simp; omega)]
     refine Ws ?_; simp [s0, s1, s2, s7, hlt, hltI, hml, hg2, hzl, hbI]
     refine WS_cT (by simp [s0, s1, s2, s7, hlt, hltI, hml, hg2, hzl, hbI]) ?_
     refine WS_skip ?_; simp [s0, s1, s2, s7, hlt, hltI, hml, hg2, hzl, hbI]
     refine WS_seq (WS_block (Ws ?_)); simp [s0, s1, s2, s7, hlt, hltI, hml, hg2, hzl, hbI]
     refine WS_cT (by simp [s0, s1, s2, s7, hlt, hltI, hml, hg2, hzl, hbI]) ?_
     refine Wr ?_; simp [s0, s1, s2, s7, hlt, hltI, hml, hg2, hzl, hbI]
     refine WS_ret ?_; simp [s0, s1, s2, s7, hlt, hltI, hml, hg2, hzl, hbI]
 · obtain rfl : i = Ms.length := by omega
   have hltI : ¬ (Ms.length : Int) < (Ms.length : Int) := by omega
   rw [List.take_length] at hall
   rw [hall]
   refine Ws ?_; simp [s0, s1, s2, s7, hltI, hml]
   refine WS_cF (by simp [s0, s1, s2, s7, hltI, hml]) ?_
   refine WS_exit ?_; simp [s0, s1, s2, s7, hltI, hml]
   refine Wr ?_; simp [s0, s1, s2, s7, hltI, hml]
   refine WS_ret ?_; simp [s0, s1, s2, s7, hltI, hml]
theorem same11 {i : Nat} {l : List Int} (h : Ld i l) (hi : i ≤ 40) : Spec Tryz.prog f_law11_same [.sl (some 2) (PZ l), .sl (some 2) (PZ l)] (· = [.pure (.b true)]) := by
 have sm := psame l (h.pl40 hi) (h.len40 hi)
 obtain ⟨O, hO⟩ : ∃ O, O = PZ l := ⟨_, rfl⟩
 rw [← hO] at sm ⊢
 refine spec_at Tryz.func56 ok_law11_same [] rfl (by simp) ?_
 unfold sc_law11_same
 refine Wr ?_; simp
 refine Wr ?_; simp
 refine callK sm ?_; simp
 refine WS_ret ?_; simp
theorem awake11 : Spec Tryz.prog f_law11_awake [] (· = [.pure (.b true)]) := by
 have s1 : Sml [-2, 0, 1] := by decide
 have s2 : Sml [-3, 0, 1] := by decide
 have s3 : Sml [-4, 0, 4] := by decide
 have s4 : Sml [6, 6] := by decide
 have s5 : Sml [2, 2] := by decide
 have o1 := ofc s1 (by decide) (by decide)
 have o2 := ofc s2 (by decide) (by decide)
 have o3 := ofc s3 (by decide) (by decide)
 have o4 := ofc s4 (by decide) (by decide)
 have o5 := ofc s5 (by decide) (by decide)
 have rs := res_awake
 have gc := own_plain (ggcd (L := 3) (isP_PZ (pl_small s3)) (isP_PZ (pl_small s4)) (by rw [PZ_length]; decide) (by rw [PZ_length]; decide) (by decide) (by decide))
 rw [show tr (gdZ [-4, 0, 4] [6, 6]) = [2, 2] by rw [gdZ, gdL_step (by decide), gdL_nil (by decide)]; decide] at gc
 have tt := ztext (k := 1) (isZ_Z (z := 1) (zlen_small (by decide))) (by omega)
 rw [show zT 1 = [49] by rw [zT, if_neg (by omega)]; decide +kernel] at tt
 have sm := same11 (i := 2) (l := [2, 2]) ⟨(pl_small s5).mono (by decide), by decide⟩ (by omega)
 have l5 : (PZ [2, 2]).length = 2 := by rw [PZ_length]; rfl
 obtain ⟨A1, h1⟩ : ∃ A, A = PZ [-2, 0, 1] := ⟨_, rfl⟩
 obtain ⟨A2, h2⟩ : ∃ A, A = PZ [-3, 0, 1] := ⟨_, rfl⟩
 obtain ⟨A3, h3⟩ : ∃ A, A = PZ [-4, 0, 4] := ⟨_, rfl⟩
 obtain ⟨A4, h4⟩ : ∃ A, A = PZ [6, 6] := ⟨_, rfl⟩
 obtain ⟨A5, h5⟩ : ∃ A, A = PZ [2, 2] := ⟨_, rfl⟩
 rw [← h1] at o1 rs
 rw [← h2] at o2 rs
 rw [← h3] at o3 gc
 rw [← h4] at o4 gc
 rw [← h5] at o5 gc sm l5
 refine spec_at Tryz.func13 ok_law11_awake [] rfl (by simp) ?_
 unfold sc_law11_awake
 refine Wr ?_; simp [tx, abin_seql, l5]
 refine Wr ?_; simp [tx, abin_seql, l5]
 refine callK o1 ?_; simp [tx, abin_seql, l5]
 refine callK o2 ?_; simp [tx, abin_seql, l5]
 refine callK rs ?_; simp [tx, abin_seql, l5]
 refine Wr ?_; simp [tx, abin_seql, l5]
 refine callK o3 ?_; simp [tx, abin_seql, l5]
 refine callK o4 ?_; simp [tx, abin_seql, l5]
 refine callK gc ?_; simp [tx, abin_seql, l5]
 refine Wr ?_; simp [tx, abin_seql, l5]
 refine callK tt ?_; simp [tx, abin_seql, l5]
 refine callK o5 ?_; simp [tx, abin_seql, l5]
 refine callK sm ?_; simp [tx, abin_seql, l5]
 refine WS_ret ?_; simp [tx, abin_seql, l5]
open Go.Dt
set_option maxRecDepth 20000 in
set_option maxHeartbeats 8000000 in
theorem law_ZgcdResultants (M1 M2 : List (Bool × List Nat)) (h1 : PW (2 ^ 24) M1) (h2 : PW (2 ^ 24) M2) :
 Spec Tryz.prog f_law11_ZgcdResultants [.sl (some 2) (zL M1), .sl (some 2) (zL M2)] (· = [.pure (.b true)]) := by
 have aw := awake11
 have sm := small11 7 2 (by omega) (by omega) [M1, M2] (by simp) (by
  intro M hM
  simp only [List.mem_cons, List.not_mem_nil, or_false] at hM
  rcases hM with rfl | rfl
  · have := h1.len; omega
  · have := h2.len; omega)
 have eL : mL [M1, M2] = [.sl (some 2) (zL M1), .sl (some 2) (zL M2)] := rfl
 rw [eL] at sm
 have ia0 : IsP (2 ^ 24) (zL M1) (piL M1) := isP_zL h1.each
 have ib0 : IsP (2 ^ 24) (zL M2) (piL M2) := isP_zL h2.each
 have la0 : (zL M1).length ≤ 2 ^ 24 := by have := h1.len; simp [zL]; omega
 have lb0 : (zL M2).length ≤ 2 ^ 24 := by have := h2.len; simp [zL]; omega
 have n1 := own_plain (rnorm10 ia0 (by omega) (by omega))
 have n2 := own_plain (rnorm10 ib0 (by omega) (by omega))
 have al := PZ_length (tr (piL M1))
 have bl := PZ_length (tr (piL M2))
 have la : (tr (piL M1)).length ≤ 2 ^ 24 := Nat.le_trans (tr_len _) (by have := ia0.len; omega)
 have lb : (tr (piL M2)).length ≤ 2 ^ 24 := Nat.le_trans (tr_len _) (by have := ib0.len; omega)
 obtain ⟨X, hX⟩ : ∃ A, A = PZ (tr (piL M1)) := ⟨_, rfl⟩
 obtain ⟨Y, hY⟩ : ∃ A, A = PZ (tr (piL M2)) := ⟨_, rfl⟩
 rw [← hX] at n1 al
 rw [← hY] at n2 bl
 by_cases hl : 65 < (tr (piL M1)).length ∨ 65 < (tr (piL M2)).length
 · have r1 := gres_long ia0 ib0 (by omega) (by omega) (by omega) hl
   have r2 := rres_long ia0 ib0 (by omega) (by omega) (by omega) hl
   have rs := rsame2 (x := 0) (k := 0) (by decide) (by omega)
   obtain ⟨A, eA⟩ : ∃ A, A = zL M1 := ⟨_, rfl⟩
   obtain ⟨B, eB⟩ : ∃ A, A = zL M2 := ⟨_, rfl⟩
   rw [← eA] at la0 sm n1 r1 r2 ⊢
   rw [← eB] at lb0 sm n2 r1 r2 ⊢
   obtain ⟨m, hm⟩ : ∃ m, m = (tr (piL M1)).length := ⟨_, rfl⟩
   obtain ⟨n, hn⟩ : ∃ m, m = (tr (piL M2)).length := ⟨_, rfl⟩
   rw [← hm] at al la hl
   rw [← hn] at bl lb hl
   refine spec_at Tryz.func3 ok_law11_ZgcdResultants [] rfl (by simp) ?_
   unfold sc_law11_ZgcdResultants
   by_cases ha : 65 < m
   · have a1 : ¬ (m : Int) ≤ 65 := by omega
     have a2 : ¬ m ≤ 65 := by omega
     refine Wr ?_; simp [al, bl, a1, a2]
     refine Wr ?_; simp [al, bl, a1, a2]
     refine callK aw ?_; simp [al, bl, a1, a2]
     refine Ws ?_; simp [al, bl, a1, a2]
     refine callK n1 ?_; simp [al, bl, a1, a2]
     refine WS_cF (by simp [al, bl, a1, a2]) ?_
     refine WS_skip ?_; simp [al, bl, a1, a2]
     refine Wr ?_; simp [al, bl, a1, a2]
     refine callK r1 ?_; simp [al, bl, a1, a2]
     refine Wr ?_; simp [al, bl, a1, a2]
     refine callK r2 ?_; simp [al, bl, a1, a2]
     refine Wr ?_; simp [al, bl, a1, a2]
     refine callK rs ?_; simp [al, bl, a1, a2]
     refine WS_ret ?_; simp [al, bl, a1, a2]
   · have a1 : (m : Int) ≤ 65 := by omega
     have a2 : m ≤ 65 := by omega
     have b1 : ¬ (n : Int) ≤ 65 := by omega
     have b2 : ¬ n ≤ 65 := by omega
     refine Wr ?_; simp [al, bl, a1, a2, b1, b2]
     refine Wr ?_; simp [al, bl, a1, a2, b1, b2]
     refine callK aw ?_; simp [al, bl, a1, a2, b1, b2]
     refine Ws ?_; simp [al, bl, a1, a2, b1, b2]
     refine callK n1 ?_; simp [al, bl, a1, a2, b1, b2]
     refine callK n2 ?_; simp [al, bl, a1, a2, b1, b2]
     refine WS_cF (by simp [al, bl, a1, a2, b1, b2]) ?_
     refine WS_skip ?_; simp [al, bl, a1, a2, b1, b2]
     refine Wr ?_; simp [al, bl, a1, a2, b1, b2]
     refine callK r1 ?_; simp [al, bl, a1, a2, b1, b2]
     refine Wr ?_; simp [al, bl, a1, a2, b1, b2]
     refine callK r2 ?_; simp [al, bl, a1, a2, b1, b2]
     refine Wr ?_; simp [al, bl, a1, a2, b1, b2]
     refine callK rs ?_; simp [al, bl, a1, a2, b1, b2]
     refine WS_ret ?_; simp [al, bl, a1, a2, b1, b2]
 · by_cases hs : smB 7 2 [M1, M2] = true
   · obtain ⟨ia, sa⟩ := isP_small h1.each (small_of hs (by simp))
     obtain ⟨ib, sb⟩ := isP_small h2.each (small_of hs (by simp))
     rw [hs] at sm
     have r1 := gres (L := 7) ia ib sa sb (by omega) (by omega) (by omega) (by decide)
     have r2 := rres ia ib sa sb
     have lim := rsZ_lim (L := 7) ia.pl ib.pl (by rw [← ia.len]; exact sa) (by rw [← ib.len]; exact sb) (by omega) (by omega) (by omega) (by decide)
     have rs := rsame2 lim (by omega)
     obtain ⟨A, eA⟩ : ∃ A, A = zL M1 := ⟨_, rfl⟩
     obtain ⟨B, eB⟩ : ∃ A, A = zL M2 := ⟨_, rfl⟩
     rw [← eA] at la0 sm n1 r1 r2 ⊢
     rw [← eB] at lb0 sm n2 r1 r2 ⊢
     obtain ⟨z, hz⟩ : ∃ z, z = rsZ (piL M1) (piL M2) := ⟨_, rfl⟩
     rw [← hz] at r1 r2 rs lim
     obtain ⟨m, hm⟩ : ∃ m, m = (tr (piL M1)).length := ⟨_, rfl⟩
     obtain ⟨n, hn⟩ : ∃ m, m = (tr (piL M2)).length := ⟨_, rfl⟩
     rw [← hm] at al la hl
     rw [← hn] at bl lb hl
     have a1 : (m : Int) ≤ 65 := by omega
     have a2 : m ≤ 65 := by omega
     have b1 : (n : Int) ≤ 65 := by omega
     have b2 : n ≤ 65 := by omega
     refine spec_at Tryz.func3 ok_law11_ZgcdResultants [] rfl (by simp) ?_
     unfold sc_law11_ZgcdResultants
     refine Wr ?_; simp [al, bl, a1, a2, b1, b2]
     refine Wr ?_; simp [al, bl, a1, a2, b1, b2]
     refine callK aw ?_; simp [al, bl, a1, a2, b1, b2]
     refine Ws ?_; simp [al, bl, a1, a2, b1, b2]
     refine callK n1 ?_; simp [al, bl, a1, a2, b1, b2]
     refine callK n2 ?_; simp [al, bl, a1, a2, b1, b2]
     refine callK sm ?_; simp [al, bl, a1, a2, b1, b2]
     refine WS_cF (by simp [al, bl, a1, a2, b1, b2]) ?_
     refine WS_skip ?_; simp [al, bl, a1, a2, b1, b2]
     refine Wr ?_; simp [al, bl, a1, a2, b1, b2]
     refine callK r1 ?_; simp [al, bl, a1, a2, b1, b2]
     refine Wr ?_; simp [al, bl, a1, a2, b1, b2]
     refine callK r2 ?_; simp [al, bl, a1, a2, b1, b2]
     refine Wr ?_; simp [al, bl, a1, a2, b1, b2]
     refine callK rs ?_; simp [al, bl, a1, a2, b1, b2]
     refine WS_ret ?_; simp [al, bl, a1, a2, b1, b2]
   · have hs' : smB 7 2 [M1, M2] = false := by simpa using hs
     rw [hs'] at sm
     obtain ⟨A, eA⟩ : ∃ A, A = zL M1 := ⟨_, rfl⟩
     obtain ⟨B, eB⟩ : ∃ A, A = zL M2 := ⟨_, rfl⟩
     rw [← eA] at la0 sm n1 ⊢
     rw [← eB] at lb0 sm n2 ⊢
     obtain ⟨m, hm⟩ : ∃ m, m = (tr (piL M1)).length := ⟨_, rfl⟩
     obtain ⟨n, hn⟩ : ∃ m, m = (tr (piL M2)).length := ⟨_, rfl⟩
     rw [← hm] at al la hl
     rw [← hn] at bl lb hl
     have a1 : (m : Int) ≤ 65 := by omega
     have a2 : m ≤ 65 := by omega
     have b1 : (n : Int) ≤ 65 := by omega
     have b2 : n ≤ 65 := by omega
     refine spec_at Tryz.func3 ok_law11_ZgcdResultants [] rfl (by simp) ?_
     unfold sc_law11_ZgcdResultants
     refine Wr ?_; simp [al, bl, a1, a2, b1, b2]
     refine Wr ?_; simp [al, bl, a1, a2, b1, b2]
     refine callK aw ?_; simp [al, bl, a1, a2, b1, b2]
     refine Ws ?_; simp [al, bl, a1, a2, b1, b2]
     refine callK n1 ?_; simp [al, bl, a1, a2, b1, b2]
     refine callK n2 ?_; simp [al, bl, a1, a2, b1, b2]
     refine callK sm ?_; simp [al, bl, a1, a2, b1, b2]
     refine WS_cT (by simp [al, bl, a1, a2, b1, b2]) ?_
     refine Wr ?_; simp [al, bl, a1, a2, b1, b2]
     refine WS_ret ?_; simp [al, bl, a1, a2, b1, b2]
end Go.Vw
