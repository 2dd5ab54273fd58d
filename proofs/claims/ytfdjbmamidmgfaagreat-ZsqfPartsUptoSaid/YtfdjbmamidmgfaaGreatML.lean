/- The contracts of the laws of layer 11 and 12 and 14. -/
import Derived.Test.YtfdjbmamidmgfaaGreatMA
import Derived.Test.YtfdjbmamidmgfaaGreatMB
import Derived.Test.YtfdjbmamidmgfaaGreatMC
import Derived.Test.YtfdjbmamidmgfaaGreatMD
import Derived.Test.YtfdjbmamidmgfaaGreatME
import Derived.Test.YtfdjbmamidmgfaaGreatMF
import Derived.Test.YtfdjbmamidmgfaaGreatMG
import Derived.Test.YtfdjbmamidmgfaaGreatMP
import Derived.Test.YtfdjbmamidmgfaaGreatMR
set_option linter.unusedVariables false
set_option linter.unusedSimpArgs false
namespace Go.Vw
open Go.Proofs Go.Py
attribute [local simp] zv V.fits fillOk fillV Z_eq
open Go.Dt
theorem same12 (l : List Int) (hp : PL (2 ^ 40) l) (hn : l.length ≤ 2 ^ 40) : Spec Tryz.prog f_law12_same [.sl (some 2) (PZ l), .sl (some 2) (PZ l)] (· = [.pure (.b true)]) := by
 have sm := psame l hp hn
 obtain ⟨O, hO⟩ : ∃ O, O = PZ l := ⟨_, rfl⟩
 rw [← hO] at sm ⊢
 refine spec_at Tryz.func23 ok_law12_same [] rfl (by simp) ?_
 unfold sc_law12_same
 refine Wr ?_; simp
 refine Wr ?_; simp
 refine callK sm ?_; simp
 refine WS_ret ?_; simp
theorem theirs12 (xs : List V) (hx : PsV xs) (hn : xs.length ≤ 2 ^ 20) : Spec Tryz.prog f_law12_theirs [.sl (some 2) xs] (· = [.pure (.sl (some 2) xs)]) := by
 refine spec_at Tryz.func41 ok_law12_theirs [] rfl (by simp) ?_
 unfold sc_law12_theirs
 refine Wr ?_; simp
 refine WS_seq (WS_reg [3] ?_); simp
 refine Ws ?_; simp
 refine WS_block ?_
 refine WS_loop (ThS 80 xs) (fun S => xs.length - nM 4 S) ⟨0, 1, by omega, rfl, rfl, by simp, by simp⟩ ?_
 rintro S ⟨i, g, hi, s0, s4, s3, h3⟩
 have d4 := nM_eq s4
 by_cases hlt : i < xs.length
 · have hltI : (i : Int) < (xs.length : Int) := by omega
   obtain ⟨q, m, hq, _, _⟩ := hx _ (List.getElem_mem hlt)
   have hsn := List.take_succ_eq_append_getElem hlt
   rw [hq] at hsn
   obtain ⟨W, hW⟩ : ∃ W, W = PZ q := ⟨_, rfl⟩
   rw [← hW] at hq hsn
   have wi := i64_succ i (by omega)
   have hpl : (xs.take i).length = i := by simp; omega
   obtain ⟨O, hO⟩ : ∃ O, O = xs.take i := ⟨_, rfl⟩
   rw [← hO] at hpl hsn h3
   have hto : O.take i = O := List.take_of_length_le (by omega)
   refine Ws ?_; simp [s0, s4, s3, h3, hlt, hltI, hq, wi, hpl, hto]
   refine WS_cT (by simp [s0, s4, s3, h3, hlt, hltI, hq, wi, hpl, hto]) ?_
   refine WS_skip ?_; simp [s0, s4, s3, h3, hlt, hltI, hq, wi, hpl, hto]
   refine WS_seq (WS_block (WS_regD [] ?_)); simp [s0, s4, s3, h3, hlt, hltI, hq, wi, hpl, hto]
   refine ⟨by omega, ?_⟩
   refine ⟨rfl, ?_⟩
   refine WS_reg [] ?_; simp [s0, s4, s3, h3, hlt, hltI, hq, wi, hpl, hto]
   refine ⟨⟨i + 1, g + 1, by omega, by simp [s0], by simp, by simp, by simp [hsn]⟩, ?_⟩
   show xs.length - nM 4 _ < xs.length - nM 4 S
   rw [d4, nM_eq (i := 4) (n := i + 1) (by simp)]
   omega
 · obtain rfl : i = xs.length := by omega
   have hltI : ¬ (xs.length : Int) < (xs.length : Int) := by omega
   have hto : xs.take xs.length = xs := List.take_length
   rw [hto] at h3
   refine Ws ?_; simp [s0, s4, s3, h3, hltI, hto]
   refine WS_cF (by simp [s0, s4, s3, h3, hltI, hto]) ?_
   refine WS_exit ?_; simp [s0, s4, s3, h3, hltI, hto]
   refine WS_frz 3 3 none ?_
   simp [frzQ, s3, h3, hto]
   refine Wr ?_; simp [s0, s4, s3, h3, hltI, hto]
   refine WS_ret ?_; simp [s0, s4, s3, h3, hltI, hto]
set_option maxHeartbeats 1000000 in
theorem small12 (n w : Nat) (hn : n ≤ 2 ^ 40) (hw : w ≤ 2 ^ 40) (Ms : List (List (Bool × List Nat))) (hM : Ms.length ≤ 2 ^ 40) (hMs : ∀ M ∈ Ms, M.length ≤ 2 ^ 40) : Spec Tryz.prog f_law12_small [.i .i64 (n : Int), .i .i64 (w : Int), .sl none (mL Ms)] (· = [.pure (.b (smB n w Ms))]) := by
 have hml : (mL Ms).length = Ms.length := by simp [mL]
 refine spec_at Tryz.func20 ok_law12_small [] rfl (by simp) ?_
 unfold sc_law12_small
 refine Wr ?_; simp
 refine Ws ?_; simp
 refine WS_block ?_
 refine WS_loop (SmS n w Ms) (fun S => Ms.length - nM 7 S) ⟨0, by omega, rfl, rfl, rfl, rfl, rfl⟩ ?_
 rintro S ⟨i, hi, s0, s1, s2, s7, hall⟩
 have d7 := nM_eq s7
 by_cases hlt : i < Ms.length
 · have hltI : (i : Int) < (Ms.length : Int) := by omega
   have hml2 : i < (mL Ms).length := by omega
   have hget : (mL Ms)[i] = .sl (some 2) (zL Ms[i]) := by simp [mL]
   have hmem := List.getElem_mem hlt
   have htk := List.take_succ_eq_append_getElem hlt
   obtain ⟨M, hMe⟩ : ∃ M, M = Ms[i] := ⟨_, rfl⟩
   rw [← hMe] at hget hmem htk
   have hMl := hMs M hmem
   have hzl : (zL M).length = M.length := by simp [zL]
   have wi := i64_succ i (by omega)
   obtain ⟨O, hO⟩ : ∃ O, O = mL Ms := ⟨_, rfl⟩
   have hOl : i < O.length := by rw [hO]; omega
   have hg2 : O[i] = .sl (some 2) (zL M) := by simp only [hO]; exact hget
   rw [← hO] at hml s2
   by_cases hb : M.length ≤ n
   · have hbI : ¬ (n : Int) < (M.length : Int) := by omega
     refine Ws ?_; simp [s0, s1, s2, s7, hlt, hltI, hml, hg2, hzl, hbI]
     refine WS_cT (by simp [s0, s1, s2, s7, hlt, hltI, hml, hg2, hzl, hbI]) ?_
     refine WS_skip ?_; simp [s0, s1, s2, s7, hlt, hltI, hml, hg2, hzl, hbI]
     refine WS_seq (WS_block (Ws ?_)); simp [s0, s1, s2, s7, hlt, hltI, hml, hg2, hzl, hbI]
     refine WS_cF (by simp [s0, s1, s2, s7, hlt, hltI, hml, hg2, hzl, hbI]) ?_
     refine WS_skip ?_; simp [s0, s1, s2, s7, hlt, hltI, hml, hg2, hzl, hbI]
     refine Wr ?_; simp [s0, s1, s2, s7, hlt, hltI, hml, hg2, hzl, hbI]
     refine WS_block ?_
     refine WS_loop (SmJ n w Ms i M) (fun S => M.length - nM 8 S) ⟨0, by omega, by simp, rfl, by simp [s0], by simp [s1], by simp [s2, hO], by simp [s7], hall⟩ ?_
     clear s0 s1 s2 s7
     rintro S' ⟨k, hk, s8, hr, s0, s1, s2, s7, -⟩
     have d8 := nM_eq s8
     rw [← hO] at s2
     by_cases hlt2 : k < M.length
     · have hltI2 : (k : Int) < (M.length : Int) := by omega
       have hzk : k < (zL M).length := by omega
       have hgk : (zL M)[k] = .agg [.b M[k].1, .sl none (uL M[k].2)] := by simp [zL]
       have htk2 := List.take_succ_eq_append_getElem hlt2
       have hmem2 := List.getElem_mem hlt2
       obtain ⟨p, hp⟩ : ∃ p, p = M[k] := ⟨_, rfl⟩
       rw [← hp] at hgk htk2 hmem2
       have wk := i64_succ k (by omega)
       obtain ⟨Z1, hZ1⟩ : ∃ O, O = zL M := ⟨_, rfl⟩
       have hZl : k < Z1.length := by rw [hZ1]; omega
       have hg3 : Z1[k] = .agg [.b p.1, .sl none (uL p.2)] := by simp only [hZ1]; exact hgk
       rw [← hZ1] at hzl hg2
       by_cases hq : p.2.length ≤ w
       · have hqI : ¬ (w : Int) < (p.2.length : Int) := by omega
         refine Ws ?_; simp [s0, s1, s2, s7, s8, hlt, hltI, hlt2, hltI2, hml, hg2, hzl, hg3, hqI, wk]
         refine WS_cT (by simp [s0, s1, s2, s7, s8, hlt, hltI, hlt2, hltI2, hml, hg2, hzl, hg3, hqI, wk]) ?_
         refine WS_skip ?_; simp [s0, s1, s2, s7, s8, hlt, hltI, hlt2, hltI2, hml, hg2, hzl, hg3, hqI, wk]
         refine WS_seq (WS_block (Wr ?_)); simp [s0, s1, s2, s7, s8, hlt, hltI, hlt2, hltI2, hml, hg2, hzl, hg3, hqI, wk]
         refine WS_cF (by simp [s0, s1, s2, s7, s8, hlt, hltI, hlt2, hltI2, hml, hg2, hzl, hg3, hqI, wk]) ?_
         refine WS_skip ?_; simp [s0, s1, s2, s7, s8, hlt, hltI, hlt2, hltI2, hml, hg2, hzl, hg3, hqI, wk]
         refine WS_reg [] ?_; simp [s0, s1, s2, s7, s8, hlt, hltI, hlt2, hltI2, hml, hg2, hzl, hg3, hqI, wk]
         refine ⟨⟨k + 1, by omega, by simp, by rw [htk2]; exact smR_snoc hr hq, by simp [s0], by simp [s1], by simp [s2, hO], by simp [s7], hall⟩, ?_⟩
         show M.length - nM 8 _ < M.length - nM 8 S'
         rw [d8, nM_eq (i := 8) (n := k + 1) (by simp)]
         omega
       · have hqI : (w : Int) < (p.2.length : Int) := by omega
         have hno : smR w M = false := by
          rw [smR, List.all_eq_false]
          exact ⟨p, hmem2, by simp; omega⟩
         rw [smB_false hmem (by rw [hno, Bool.and_false])]
         refine Ws ?_; simp [s0, s1, s2, s7, s8, hlt, hltI, hlt2, hltI2, hml, hg2, hzl, hg3, hqI, wk]
         refine WS_cT (by simp [s0, s1, s2, s7, s8, hlt, hltI, hlt2, hltI2, hml, hg2, hzl, hg3, hqI, wk]) ?_
         refine WS_skip ?_; simp [s0, s1, s2, s7, s8, hlt, hltI, hlt2, hltI2, hml, hg2, hzl, hg3, hqI, wk]
         refine WS_seq (WS_block (Wr ?_)); simp [s0, s1, s2, s7, s8, hlt, hltI, hlt2, hltI2, hml, hg2, hzl, hg3, hqI, wk]
         refine WS_cT (by simp [s0, s1, s2, s7, s8, hlt, hltI, hlt2, hltI2, hml, hg2, hzl, hg3, hqI, wk]) ?_
         refine Wr ?_; simp [s0, s1, s2, s7, s8, hlt, hltI, hlt2, hltI2, hml, hg2, hzl, hg3, hqI, wk]
         refine WS_ret ?_; simp [s0, s1, s2, s7, s8, hlt, hltI, hlt2, hltI2, hml, hg2, hzl, hg3, hqI, wk]
     · obtain rfl : k = M.length := by omega
       have hltI2 : ¬ (M.length : Int) < (M.length : Int) := by omega
       rw [List.take_length] at hr
       refine Ws ?_; simp [s0, s1, s2, s7, s8, hlt, hltI, hltI2, hml, hg2, hzl, wi]
       refine WS_cF (by simp [s0, s1, s2, s7, s8, hlt, hltI, hltI2, hml, hg2, hzl, wi]) ?_
       refine WS_exit ?_; simp [s0, s1, s2, s7, s8, hlt, hltI, hltI2, hml, hg2, hzl, wi]
       refine WS_reg [] ?_; simp [s0, s1, s2, s7, s8, hlt, hltI, hltI2, hml, hg2, hzl, wi]
       refine ⟨⟨i + 1, by omega, by simp [s0], by simp [s1], by simp [s2, hO], by simp, by rw [htk]; exact smB_snoc hall hb hr⟩, ?_⟩
       show Ms.length - nM 7 _ < Ms.length - nM 7 S
       rw [d7, nM_eq (i := 7) (n := i + 1) (by simp)]
       omega
   · have hbI : (n : Int) < (M.length : Int) := by omega
     rw [smB_false hmem (by simp; omega)]
     refine Ws ?_; simp [s0, s1, s2, s7, hlt, hltI, hml, hg2, hzl, hbI]
     refine WS_cT (by simp [s0, s1, s2, s7, hlt, hltI, hml, hg2, hzl, hbI]) ?_
     refine WS_skip ?_; simp [s0, s1, s2, s7, hlt, hltI, hml, hg2, hzl, hbI]
     refine WS_seq (WS_block (Ws ?_)); simp [s0, s1, s2, s7, hlt, hltI, hml, hg2, hzl, hbI]
     refine WS_cT (by simp [s0, s1, s2, s7, hlt, hltI, hml, hg2, hzl, hbI]) ?_
     refine Wr ?_; simp [s0, s1, s2, s7, hlt, hltI, hml, hg2, hzl, hbI]
     refine WS_ret ?_; simp [s0, s1, s2, s7, hlt, hltI, hml, hg2, hzl, hbI]
 · obtain rfl : i = Ms.length := by omega
   have hltI : ¬ (Ms.length : Int) < (Ms.length : Int) := by omega
   rw [List.take_length] at hall
   rw [hall]
   refine Ws ?_; simp [s0, s1, s2, s7, hltI, hml]
   refine WS_cF (by simp [s0, s1, s2, s7, hltI, hml]) ?_
   refine WS_exit ?_; simp [s0, s1, s2, s7, hltI, hml]
   refine Wr ?_; simp [s0, s1, s2, s7, hltI, hml]
   refine WS_ret ?_; simp [s0, s1, s2, s7, hltI, hml]
theorem awake12 : Spec Tryz.prog f_law12_awake [] (· = [.pure (.b true)]) := by
 have s1 : Sml [2, -2, -2, 2] := by decide
 have s2 : Sml [-1, 0, 1] := by decide
 have s3 : Sml [1, 1] := by decide
 have s4 : Sml [-1, 1] := by decide
 have o1 := ofc s1 (by decide) (by decide)
 have o2 := ofc s2 (by decide) (by decide)
 have o3 := own_plain (rof10 s3 (by decide))
 have o4 := own_plain (rof10 s4 (by decide))
 rw [show tr [1, 1] = [1, 1] by decide] at o3
 rw [show tr [-1, 1] = [-1, 1] by decide] at o4
 have pa := zParts (isP_PZ (pl_small s1)) (by decide) (by rw [PZ_length]; decide) exDc (by decide) (by decide)
 have e1 : partV 1 exQ = [.agg [.sl (some 2) (PZ [1, 1]), .i .i64 1], .agg [.sl (some 2) (PZ [-1, 1]), .i .i64 2]] := by
  simp only [exQ, partV, show tr [1, 1] = [1, 1] by decide, show tr [-1, 1] = [-1, 1] by decide]
  rfl
 have th := theirs12 (partV 1 exQ) (exDc.psV (by decide) 1) (by rw [e1]; decide)
 have sm := Same12 (partV 1 exQ) (exDc.psV (by decide) 1) (by rw [e1]; decide)
 rw [e1] at pa th sm
 have bd := zbound (isP_PZ (pl_small s2)) (by decide) (by rw [PZ_length]; decide) (by decide)
 rw [show bndZ (tr [-1, 0, 1]) = 8 by decide] at bd
 have tt := ztext (k := 1) (isZ_Z (z := 8) (zlen_small (by decide))) (by omega)
 rw [show zT 8 = [56] by rw [zT, if_neg (by omega)]; decide +kernel] at tt
 obtain ⟨A1, h1⟩ : ∃ A, A = PZ [2, -2, -2, 2] := ⟨_, rfl⟩
 obtain ⟨A2, h2⟩ : ∃ A, A = PZ [-1, 0, 1] := ⟨_, rfl⟩
 obtain ⟨A3, h3⟩ : ∃ A, A = PZ [1, 1] := ⟨_, rfl⟩
 obtain ⟨A4, h4⟩ : ∃ A, A = PZ [-1, 1] := ⟨_, rfl⟩
 rw [← h1] at o1 pa
 rw [← h2] at o2 bd
 rw [← h3] at o3 pa th sm
 rw [← h4] at o4 pa th sm
 refine spec_at Tryz.func19 ok_law12_awake [] rfl (by simp) ?_
 unfold sc_law12_awake
 refine Wr ?_; simp [tx, abin_seql]
 refine Wr ?_; simp [tx, abin_seql]
 refine callK o1 ?_; simp [tx, abin_seql]
 refine callK pa ?_; simp [tx, abin_seql]
 refine Wr ?_; simp [tx, abin_seql]
 refine callK o2 ?_; simp [tx, abin_seql]
 refine callK bd ?_; simp [tx, abin_seql]
 refine Wr ?_; simp [tx, abin_seql]
 refine callK th ?_; simp [tx, abin_seql]
 refine callK o3 ?_; simp [tx, abin_seql]
 refine callK o4 ?_; simp [tx, abin_seql]
 refine callK sm ?_; simp [tx, abin_seql]
 refine callK tt ?_; simp [tx, abin_seql]
 refine WS_ret ?_; simp [tx, abin_seql]
set_option maxHeartbeats 4000000 in
theorem law_ZsqfParts (M1 : List (Bool × List Nat)) (h1 : PW (2 ^ 24) M1) : Spec Tryz.prog f_law12_ZsqfParts [.sl (some 2) (zL M1)] (· = [.pure (.b true)]) := by
 have aw := awake12
 have iz : IsP (2 ^ 24) (zL M1) (piL M1) := isP_zL h1.each
 have lz : (zL M1).length ≤ 2 ^ 24 := by have := h1.len; simp [zL]; omega
 have w1 := rwrong12 iz (by omega) (by omega)
 by_cases hw : wrE (piL M1) = 0
 · rw [hw] at w1
   have sm := small12 14 1 (by omega) (by omega) [M1] (by simp) (by
    intro M hM
    simp only [List.mem_cons, List.not_mem_nil, or_false] at hM
    subst hM
    have := h1.len; omega)
   have eL : mL [M1] = [.sl (some 2) (zL M1)] := rfl
   rw [eL] at sm
   by_cases hs : smB 14 1 [M1] = true
   · obtain ⟨ia, al⟩ := isP_small h1.each (small_of hs (M := M1) (by simp))
     rw [hs] at sm
     obtain ⟨a, ea⟩ : ∃ a, a = piL M1 := ⟨_, rfl⟩
     rw [← ea] at ia hw
     obtain ⟨h0, hl⟩ := wrE_ok hw
     have hl2 : (tr a).length ≤ 14 := by have := tr_len a; have := ia.len; omega
     obtain ⟨qs, hd, hq⟩ := dc_ex2 ia.pl h0 (by omega)
     have c1 := zParts ia (by omega) (by omega) hd (by omega) hw
     have c2 := rParts ia (by omega) (by omega) hd (by omega) hw
     have c3 := zradical ia (by omega) (by omega) (by omega) h0 hd
     have c4 := rRadical ia (by omega) (by omega) hd hw
     have c5 := zis ia (by omega) (by omega) (by omega) h0 hd
     have c6 := rIs ia (by omega) (by omega) hd hw
     have c7 := zbound ia (by omega) (by omega) hw
     have c8 := rbound ia (by omega) (by omega) hw
     have pvl : (partV 1 qs).length ≤ 2 ^ 20 := by have := partV_len qs 1; omega
     have th := theirs12 _ (hd.psV (by omega) 1) pvl
     have s1 := Same12 _ (hd.psV (by omega) 1) pvl
     have s2 := same12 (tr (BL qs)) ((pl_tr hd.B.1).mono (by omega)) (by have := hd.B.2.1; omega)
     have s3 := zsame (bndZ (tr a)) (Nat.le_trans (bnd_lim ia.pl (by omega) hw) (by decide))
     obtain ⟨X, hX⟩ : ∃ X, X = partV 1 qs := ⟨_, rfl⟩
     rw [← hX] at c1 c2 th s1
     obtain ⟨R, hR⟩ : ∃ X, X = PZ (tr (BL qs)) := ⟨_, rfl⟩
     rw [← hR] at c3 c4 s2
     obtain ⟨t, ht⟩ : ∃ t, t = decide ((tr (EL 0 qs)).length = 1) := ⟨_, rfl⟩
     rw [← ht] at c5 c6
     obtain ⟨b, hb⟩ : ∃ b, b = bndZ (tr a) := ⟨_, rfl⟩
     rw [← hb] at c7 c8 s3
     obtain ⟨A, hA⟩ : ∃ A, A = zL M1 := ⟨_, rfl⟩
     rw [← hA] at w1 sm c1 c2 c3 c4 c5 c6 c7 c8 ⊢
     refine spec_at Tryz.func7 ok_law12_ZsqfParts [] rfl (by simp) ?_
     unfold sc_law12_ZsqfParts
     refine Wr ?_; simp
     refine Wr ?_; simp
     refine callK aw ?_; simp
     refine Ws ?_; simp
     refine callK w1 ?_; simp
     refine callK sm ?_; simp
     refine WS_cF (by simp) ?_
     refine WS_skip ?_; simp
     refine Wr ?_; simp
     refine callK c1 ?_; simp
     refine Wr ?_; simp
     refine callK c2 ?_; simp
     refine Wr ?_; simp
     refine callK c3 ?_; simp
     refine Wr ?_; simp
     refine callK c4 ?_; simp
     refine Wr ?_; simp
     refine callK c5 ?_; simp
     refine Wr ?_; simp
     refine callK c6 ?_; simp
     refine Wr ?_; simp
     refine callK c7 ?_; simp
     refine Wr ?_; simp
     refine callK c8 ?_; simp
     refine Wr ?_; simp
     refine callK th ?_; simp
     refine callK s1 ?_; simp
     refine callK s2 ?_; simp
     refine callK s3 ?_; simp
     refine WS_ret ?_; simp
   · have hs' : smB 14 1 [M1] = false := by simpa using hs
     rw [hs'] at sm
     refine spec_at Tryz.func7 ok_law12_ZsqfParts [] rfl (by simp) ?_
     unfold sc_law12_ZsqfParts
     refine Wr ?_; simp
     refine Wr ?_; simp
     refine callK aw ?_; simp
     refine Ws ?_; simp
     refine callK w1 ?_; simp
     refine callK sm ?_; simp
     refine WS_cT (by simp) ?_
     refine Wr ?_; simp
     refine WS_ret ?_; simp
 · have c1 := zParts_wrong iz (by omega) (by omega) hw
   have c2 := rParts_wrong iz (by omega) (by omega) hw
   have c3 := zradical_wrong iz (by omega) (by omega) hw
   have c4 := rRadical_wrong iz (by omega) (by omega) hw
   have c5 := zis_wrong iz (by omega) (by omega) hw
   have c6 := rIs_wrong iz (by omega) (by omega) hw
   have c7 := zbound_wrong iz (by omega) (by omega) hw
   have c8 := rbound_wrong iz (by omega) (by omega) hw
   have th := theirs12 [] (fun v hv => by cases hv) (by decide)
   have s1 := Same12 [] (fun v hv => by cases hv) (by decide)
   have s2 := same12 [] (fun i => by rw [cf_ge (by simp), zlen_zero]; omega) (by decide)
   rw [show PZ [] = [] from rfl] at s2
   have s3 := zsame 0 (by rw [zlen_zero]; omega)
   obtain ⟨e, he⟩ : ∃ e, e = wrE (piL M1) := ⟨_, rfl⟩
   rw [← he] at w1 hw c1 c2 c3 c4 c5 c6 c7 c8
   have hI : (e == 0) = false := by simpa using hw
   obtain ⟨A, hA⟩ : ∃ A, A = zL M1 := ⟨_, rfl⟩
   rw [← hA] at w1 c1 c2 c3 c4 c5 c6 c7 c8 ⊢
   refine spec_at Tryz.func7 ok_law12_ZsqfParts [] rfl (by simp) ?_
   unfold sc_law12_ZsqfParts
   refine Wr ?_; simp [hI, hw, Z_zero]
   refine Wr ?_; simp [hI, hw, Z_zero]
   refine callK aw ?_; simp [hI, hw, Z_zero]
   refine Ws ?_; simp [hI, hw, Z_zero]
   refine callK w1 ?_; simp [hI, hw, Z_zero]
   refine WS_cF (by simp [hI, hw, Z_zero]) ?_
   refine WS_skip ?_; simp [hI, hw, Z_zero]
   refine Wr ?_; simp [hI, hw, Z_zero]
   refine callK c1 ?_; simp [hI, hw, Z_zero]
   refine Wr ?_; simp [hI, hw, Z_zero]
   refine callK c2 ?_; simp [hI, hw, Z_zero]
   refine Wr ?_; simp [hI, hw, Z_zero]
   refine callK c3 ?_; simp [hI, hw, Z_zero]
   refine Wr ?_; simp [hI, hw, Z_zero]
   refine callK c4 ?_; simp [hI, hw, Z_zero]
   refine Wr ?_; simp [hI, hw, Z_zero]
   refine callK c5 ?_; simp [hI, hw, Z_zero]
   refine Wr ?_; simp [hI, hw, Z_zero]
   refine callK c6 ?_; simp [hI, hw, Z_zero]
   refine Wr ?_; simp [hI, hw, Z_zero]
   refine callK c7 ?_; simp [hI, hw, Z_zero]
   refine Wr ?_; simp [hI, hw, Z_zero]
   refine callK c8 ?_; simp [hI, hw, Z_zero]
   refine Wr ?_; simp [hI, hw, Z_zero]
   refine callK th ?_; simp [hI, hw, Z_zero]
   refine callK s1 ?_; simp [hI, hw, Z_zero]
   refine callK s2 ?_; simp [hI, hw, Z_zero]
   refine callK s3 ?_; simp [hI, hw, Z_zero]
   refine WS_ret ?_; simp [hI, hw, Z_zero]
end Go.Vw
