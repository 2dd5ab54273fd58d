/- The contracts of the laws of layer 11 and 12 and 14. -/
import Derived.Test.YtfdjbmamidmgfaaGreatMA
import Derived.Test.YtfdjbmamidmgfaaGreatMB
import Derived.Test.YtfdjbmamidmgfaaGreatMC
import Derived.Test.YtfdjbmamidmgfaaGreatMD
import Derived.Test.YtfdjbmamidmgfaaGreatME
import Derived.Test.YtfdjbmamidmgfaaGreatMF
import Derived.Test.YtfdjbmamidmgfaaGreatMG
import Derived.Test.YtfdjbmamidmgfaaGreatMP
import Derived.Test.YtfdjbmamidmgfaaGreatMR
set_option linter.unusedVariables false
set_option linter.unusedSimpArgs false
namespace Go.Vw
open Go.Proofs Go.Py
attribute [local simp] zv V.fits fillOk fillV Z_eq
open Go.Dt
theorem same12 (l : List Int) (hp : PL (2 ^ 40) l) (hn : l.length ≤ 2 ^ 40) : Spec Tryz.prog f_law12_same [.sl (some 2) (PZ l), .sl (some 2) (PZ l)] (· = [.pure (.b true)]) := by
 have sm := psame l hp hn
 obtain ⟨O, hO⟩ : ∃ O, O = PZ l := ⟨_, rfl⟩
 rw [← hO] at sm ⊢
 refine spec_at Tryz.func23 ok_law12_same [] rfl (by simp) ?_
 unfold sc_law12_same
 refine Wr ?_; simp
 refine Wr ?_; simp
 refine callK sm ?_; simp
 refine WS_ret ?_; simp
theorem theirs12 (xs : List V) (hx : PsV xs) (hn : xs.length ≤ 2 ^ 20) : Spec Tryz.prog f_law12_theirs [.sl (some 2) xs] (· = [.pure (.sl (some 2) xs)]) := by
 refine spec_at Tryz.func41 ok_law12_theirs [] rfl (by simp) ?_
 unfold sc_law12_theirs
 refine Wr ?_; simp
 refine WS_seq (WS_reg [3] ?_); simp
 refine Ws ?_; simp
 refine WS_block ?_
 refine WS_loop (ThS 80 xs) (fun S => xs.length - nM 4 S) ⟨0, 1, by omega, rfl, rfl, by simp, by simp⟩ ?_
 rintro S ⟨i, g, hi, s0, s4, s3, h3⟩
 have d4 := nM_eq s4
 by_cases hlt : i < xs.length
 · have hltI : (i : Int) < (xs.length : Int) := by omega
   obtain ⟨q, m, hq, _, _⟩ := hx _ (List.getElem_mem hlt)
   have hsn := List.take_succ_eq_append_getElem hlt
   rw [hq] at hsn
   obtain ⟨W, hW⟩ : ∃ W, W = PZ q := ⟨_, rfl⟩
   rw [← hW] at hq hsn
   have wi := i64_succ i (by omega)
   have hpl : (xs.take i).length = i := by simp; omega
   obtain ⟨O, hO⟩ : ∃ O, O = xs.take i := ⟨_, rfl⟩
   rw [← hO] at hpl hsn h3
   have hto : O.take i = O := List.take_of_length_le (by omega)
   refine Ws ?_; simp [s0, s4, s3, h3, hlt, hltI, hq, wi, hpl, hto]
   refine WS_cT (by simp [s0, s4, s3, h3, hlt, hltI, hq, wi, hpl, hto]) ?_
   refine WS_skip ?_; simp [s0, s4, s3, h3, hlt, hltI, hq, wi, hpl, hto]
   refine WS_seq (WS_block (WS_regD [] ?_)); simp [s0, s4, s3, h3, hlt, hltI, hq, wi, hpl, hto]
   refine ⟨by omega, ?_⟩
   refine ⟨rfl, ?_⟩
   refine WS_reg [] ?_; simp [s0, s4, s3, h3, hlt, hltI, hq, wi, hpl, hto]
   refine ⟨⟨i + 1, g + 1, by omega, by simp [s0], by simp, by simp, by simp [hsn]⟩, ?_⟩
   show xs.length - nM 4 _ < xs.length - nM 4 S
   rw [d4, nM_eq (i := 4) (n := i + 1) (by simp)]
   omega
 · obtain rfl : i = xs.length := by omega
   have hltI : ¬ (xs.length : Int) < (xs.length : Int) := by omega
   have hto : xs.take xs.length = xs := List.take_length
   rw [hto] at h3
   refine Ws ?_; simp [s0, s4, s3, h3, hltI, hto]
   refine WS_cF (by simp [s0, s4, s3, h3, hltI, hto]) ?_
   refine WS_exit ?_; simp [s0, s4, s3, h3, hltI, hto]
   refine WS_frz 3 3 none ?_
   simp [frzQ, s3, h3, hto]
   refine Wr ?_; simp [s0, s4, s3, h3, hltI, hto]
   refine WS_ret ?_; simp [s0, s4, s3, h3, hltI, hto]
set_option maxHeartbeats 1000000 in
theorem small12 (n w : Nat) (hn : n ≤ 2 ^ 40) (hw : w ≤ 2 ^ 40) (Ms : List (List (Bool × List Nat))) (hM : Ms.length ≤ 2 ^ 40) (hMs : ∀ M ∈ Ms, M.length ≤ 2 ^ 40) : Spec Tryz.prog f_law12_small [.i .i64 (n : Int), .i .i64 (w : Int), .sl none (mL Ms)] (· = [.pure (.b (smB n w Ms))]) := by
 have hml : (mL Ms).length = Ms.length := by simp [mL]
 refine spec_at Tryz.func20 ok_law12_small [] rfl (by simp) ?_
 unfold sc_law12_small
 refine Wr ?_; simp
 refine Ws ?_; simp
 refine WS_block ?_
 refine WS_loop (SmS n w Ms) (fun S => Ms.length - nM 7 S) ⟨0, by omega, rfl, rfl, rfl, rfl, rfl⟩ ?_
 rintro S ⟨i, hi, s0, s1, s2, s7, hall⟩
 have d7 := nM_eq s7
 by_cases hlt : i < Ms.length
 · have hltI : (i : Int) < (Ms.length : Int) := by omega
   have hml2 : i < (mL Ms).length := by omega
   have hget : (mL Ms)[i] = .sl (some 2) (zL Ms[i]) := by simp [mL]
   have hmem := List.getElem_mem hlt
   have htk := List.take_succ_eq_append_getElem hlt
   obtain ⟨M, hMe⟩ : ∃ M, M = Ms[i] := ⟨_, rfl⟩
   rw [← hMe] at hget hmem htk
   have hMl := hMs M hmem
   have hzl : (zL M).length = M.length := by simp [zL]
   have wi := i64_succ i (by omega)
   obtain ⟨O, hO⟩ : ∃ O, O = mL Ms := ⟨_, rfl⟩
   have hOl : i < O.length := by rw [hO]; omega
   have hg2 : O[i] = .sl (some 2) (zL M) := by simp only [hO]; exact hget
   rw [← hO] at hml s2
   by_cases hb : M.length ≤ n
   · have hbI : ¬ (n : Int) < (M.length : Int) := by omega
     refine Ws ?_; simp [s0, s1, s2, s7, hlt, hltI, hml, hg2, hzl, hbI]
     refine WS_cT (by simp [s0, s1, s2, s7, hlt, hltI, hml, hg2, hzl, hbI]) ?_
     refine WS_skip ?_; simp [s0, s1, s2, s7, hlt, hltI, hml, hg2, hzl, hbI]
     refine WS_seq (WS_block (Ws ?_)); simp [s0, s1, s2, s7, hlt, hltI, hml, hg2, hzl, hbI]
     refine WS_cF (by simp [s0, s1, s2, s7, hlt, hltI, hml, hg2, hzl, hbI]) ?_
     refine WS_skip ?_; simp [s0, s1, s2, s7, hlt, hltI, hml, hg2, hzl, hbI]
     refine Wr ?_; simp [s0, s1, s2, s7, hlt, hltI, hml, hg2, hzl, hbI]
     refine WS_block ?_
     refine WS_loop (SmJ n w Ms i M) (fun S => M.length - nM 8 S) ⟨0, by omega, by simp, rfl, by simp [s0], by simp [s1], by simp [s2, hO], by simp [s7], hall⟩ ?_
     clear s0 s1 s2 s7
     rintro S' ⟨k, hk, s8, hr, s0, s1, s2, s7, -⟩
     have d8 := nM_eq s8
     rw [← hO] at s2
     by_cases hlt2 : k < M.length
     · have hltI2 : (k : Int) < (M.length : Int) := by omega
       have hzk : k < (zL M).length := by omega
       have hgk : (zL M)[k] = .agg [.b M[k].1, .sl none (uL M[k].2)] := by simp [zL]
       have htk2 := List.take_succ_eq_append_getElem hlt2
       have hmem2 := List.getElem_mem hlt2
       obtain ⟨p, hp⟩ : ∃ p, p = M[k] := ⟨_, rfl⟩
       rw [← hp] at hgk htk2 hmem2
       have wk := i64_succ k (by omega)
       obtain ⟨Z1, hZ1⟩ : ∃ O, O = zL M := ⟨_, rfl⟩
       have hZl : k < Z1.length := by rw [hZ1]; omega
       have hg3 : Z1[k] = .agg [.b p.1, .sl none (uL p.2)] := by simp only [hZ1]; exact hgk
       rw [← hZ1] at hzl hg2
       by_cases hq : p.2.length ≤ w
       · have hqI : ¬ (w : Int) < (p.2.length : Int) := by omega
         refine Ws ?_; simp [s0, s1, s2, s7, s8, hlt, hltI, hlt2, hltI2, hml, hg2, hzl, hg3, hqI, wk]
         refine WS_cT (by simp [s0, s1, s2, s7, s8, hlt, hltI, hlt2, hltI2, hml, hg2, hzl, hg3, hqI, wk]) ?_
         refine WS_skip ?_; simp [s0, s1, s2, s7, s8, hlt, hltI, hlt2, hltI2, hml, hg2, hzl, hg3, hqI, wk]
         refine WS_seq (WS_block (Wr ?_)); simp [s0, s1, s2, s7, s8, hlt, hltI, hlt2, hltI2, hml, hg2, hzl, hg3, hqI, wk]
         refine WS_cF (by simp [s0, s1, s2, s7, s8, hlt, hltI, hlt2, hltI2, hml, hg2, hzl, hg3, hqI, wk]) ?_
         refine WS_skip ?_; simp [s0, s1, s2, s7, s8, hlt, hltI, hlt2, hltI2, hml, hg2, hzl, hg3, hqI, wk]
         refine WS_reg [] ?_; simp [s0, s1, s2, s7, s8, hlt, hltI, hlt2, hltI2, hml, hg2, hzl, hg3, hqI, wk]
         refine ⟨⟨k + 1, by omega, by simp, by rw [htk2]; exact smR_snoc hr hq, by simp [s0], by simp [s1], by simp [s2, hO], by simp [s7], hall⟩, ?_⟩
         show M.length - nM 8 _ < M.length - nM 8 S'
         rw [d8, nM_eq (i := 8) (n := k + 1) (by simp)]
         omega
       · have hqI : (w : Int) < (p.2.length : Int) := by omega
         have hno : smR w M = false := by
          rw [smR, List.all_eq_false]
          exact ⟨p, hmem2, by simp; omega⟩
         rw [smB_false hmem (by rw [hno, Bool.and_false])]
         refine Ws ?_; simp [s0, s1, s2, s7, s8, hlt, hltI, hlt2, hltI2, hml, hg2, hzl, hg3, hqI, wk]
         refine WS_cT (by simp [s0, s1, s2, s7, s8, hlt, hltI, hlt2, hltI2, hml, hg2, hzl, hg3, hqI, wk]) ?_
         refine WS_skip ?_; simp [s0, s1, s2, s7, s8, hlt, hltI, hlt2, hltI2, hml, hg2, hzl, hg3, hqI, wk]
         refine WS_seq (WS_block (Wr ?_)); simp [s0, s1, s2, s7, s8, hlt, hltI, hlt2, hltI2, hml, hg2, hzl, hg3, hqI, wk]
         refine WS_cT (by simp [s0, s1, s2, s7, s8, hlt, hltI, hlt2, hltI2, hml, hg2, hzl, hg3, hqI, wk]) ?_
         refine Wr ?_; simp [s0, s1, s2, s7, s8, hlt, hltI, hlt2, hltI2, hml, hg2, hzl, hg3, hqI, wk]
         refine WS_ret ?_; simp [s0, s1, s2, s7, s8, hlt, hltI, hlt2, hltI2, hml, hg2, hzl, hg3, hqI, wk]
     · obtain rfl : k = M.length := by omega
       have hltI2 : ¬ (M.length : Int) < (M.length : Int) := by omega
       rw [List.take_length] at hr
       refine Ws ?_; simp [s0, s1, s2, s7, s8, hlt, hltI, hltI2, hml, hg2, hzl, wi]
       refine WS_cF (by simp [s0, s1, s2, s7, s8, hlt, hltI, hltI2, hml, hg2, hzl, wi]) ?_
       refine WS_exit ?_; simp [s0, s1, s2, s7, s8, hlt, hltI, hltI2, hml, hg2, hzl, wi]
       refine WS_reg [] ?_; simp [s0, s1, s2, s7, s8, hlt, hltI, hltI2, hml, hg2, hzl, wi]
       refine ⟨⟨i + 1, by omega, by simp [s0], by simp [s1], by simp [s2, hO], by simp, by rw [htk]; exact smB_snoc hall hb hr⟩, ?_⟩
       show Ms.length - nM 7 _ < Ms.length - nM 7 S
       rw [d7, nM_eq (i := 7) (n := i + 1) (by simp)]
       omega
   · have hbI : (n : Int) < (M.length : Int) := by omega
     rw [smB_false hmem (by simp; omega)]
     refine Ws ?_; simp [s0, s1, s2, s7, hlt, hltI, hml, hg2, hzl, hbI]
     refine WS_cT (by simp [s0, s1, s2, s7, hlt, hltI, hml, hg2, hzl, hbI]) ?_
     refine WS_skip ?_; simp [s0, s1, s2, s7, hlt, hltI, hml, hg2, hzl, hbI]
     refine WS_seq (WS_block (Ws ?_)); simp [s0, s1, s2, s7, hlt, hltI, hml, hg2, hzl, hbI]
     refine WS_cT (by simp [s0, s1, s2, s7, hlt, hltI, hml, hg2, hzl, hbI]) ?_
     refine Wr ?_; simp [s0, s1, s2, s7, hlt, hltI, hml, hg2, hzl, hbI]
     refine WS_ret ?_; simp [s0, s1, s2, s7, hlt, hltI, hml, hg2, hzl, hbI]
 · obtain rfl : i = Ms.length := by omega
   have hltI : ¬ (Ms.length : Int) < (Ms.length : Int) := by omega
   rw [List.take_length] at hall
   rw [hall]
   refine Ws ?_; simp [s0, s1, s2, s7, hltI, hml]
   refine WS_cF (by simp [s0, s1, s2, s7, hltI, hml]) ?_
   refine WS_exit ?_; simp [s0, s1, s2, s7, hltI, hml]
   refine Wr ?_; simp [s0, s1, s2, s7, hltI, hml]
   refine WS_ret ?_; simp [s0, s1, s2, s7, hltI, hml]
theorem awake12 : Spec Tryz.prog f_law12_awake [] (· = [.pure (.b true)]) := by
 have s1 : Sml [2, -2, -2, 2] := by decide
 have s2 : Sml [-1, 0, 1] := by decide
 have s3 : Sml [1, 1] := by decide
 have s4 : Sml [-1, 1] := by decide
 have o1 := ofc s1 (by decide) (by decide)
 have o2 := ofc s2 (by decide) (by decide)
 have o3 := own_plain (rof10 s3 (by decide))
 have o4 := own_plain (rof10 s4 (by decide))
 rw [show tr [1, 1] = [1, 1] by decide] at o3
 rw [show tr [-1, 1] = [-1, 1] by decide] at o4
 have pa := zParts (isP_PZ (pl_small s1)) (by decide) (by rw [PZ_length]; decide) exDc (by decide) (by decide)
 have e1 : partV 1 exQ = [.agg [.sl (some 2) (PZ [1, 1]), .i .i64 1], .agg [.sl (some 2) (PZ [-1, 1]), .i .i64 2]] := by
  simp only [exQ, partV, show tr [1, 1] = [1, 1] by decide, show tr [-1, 1] = [-1, 1] by decide]
  rfl
 have th := theirs12 (partV 1 exQ) (exDc.psV (by decide) 1) (by rw [e1]; decide)
 have sm := Same12 (partV 1 exQ) (exDc.psV (by decide) 1) (by rw [e1]; decide)
 rw [e1] at pa th sm
 have bd := zbound (isP_PZ (pl_small s2)) (by decide) (by rw [PZ_length]; decide) (by decide)
 rw [show bndZ (tr [-1, 0, 1]) = 8 by decide] at bd
 have tt := ztext (k := 1) (isZ_Z (z := 8) (zlen_small (by decide))) (by omega)
 rw [show zT 8 = [56] by rw [zT, if_neg (by omega)]; decide +kernel] at tt
 obtain ⟨A1, h1⟩ : ∃ A, A = PZ [2, -2, -2, 2] := ⟨_, rfl⟩
 obtain ⟨A2, h2⟩ : ∃ A, A = PZ [-1, 0, 1] := ⟨_, rfl⟩
 obtain ⟨A3, h3⟩ : ∃ A, A = PZ [1, 1] := ⟨_, rfl⟩
 obtain ⟨A4, h4⟩ : ∃ A, A = PZ [-1, 1] := ⟨_, rfl⟩
 rw [← h1] at o1 pa
 rw [← h2] at o2 bd
 rw [← h3] at o3 pa th sm
 rw [← h4] at o4 pa th sm
 refine spec_at Tryz.func19 ok_law12_awake [] rfl (by simp) ?_
 unfold sc_law12_awake
 refine Wr ?_; simp [tx, abin_seql]
 refine Wr ?_; simp [tx, abin_seql]
 refine callK o1 ?_; simp [tx, abin_seql]
 refine callK pa ?_; simp [tx, abin_seql]
 refine Wr ?_; simp [tx, abin_seql]
 refine callK o2 ?_; simp [tx, abin_seql]
 refine callK bd ?_; simp [tx, abin_seql]
 refine Wr ?_; simp [tx, abin_seql]
 refine callK th ?_; simp [tx, abin_seql]
 refine callK o3 ?_; simp [tx, abin_seql]
 refine callK o4 ?_; simp [tx, abin_seql]
 refine callK sm ?_; simp [tx, abin_seql]
 refine callK tt ?_; simp [tx, abin_seql]
 refine WS_ret ?_; simp [tx, abin_seql]
set_option maxHeartbeats 4000000 in
theorem law_ZsqfBound (M1 M2 : List (Bool × List Nat)) (h1 : PW (2 ^ 24) M1) (h2 : PW (2 ^ 24) M2) : Spec Tryz.prog f_law12_ZsqfBound [.sl (some 2) (zL M1), .sl (some 2) (zL M2)] (· = [.pure (.b true)]) := by
 have aw := awake12
 have sm := small12 12 4 (by omega) (by omega) [M1, M2] (by simp) (by
  intro M hM
  simp only [List.mem_cons, List.not_mem_nil, or_false] at hM
  rcases hM with rfl | rfl
  · have := h1.len; omega
  · have := h2.len; omega)
 have eL : mL [M1, M2] = [.sl (some 2) (zL M1), .sl (some 2) (zL M2)] := rfl
 rw [eL] at sm
 by_cases hs : smB 12 4 [M1, M2] = true
 · obtain ⟨ia, al⟩ := isP_small h1.each (small_of hs (M := M1) (by simp))
   obtain ⟨ib, bl⟩ := isP_small h2.each (small_of hs (M := M2) (by simp))
   rw [hs] at sm
   obtain ⟨a, ea⟩ : ∃ a, a = piL M1 := ⟨_, rfl⟩
   obtain ⟨b, eb⟩ : ∃ a, a = piL M2 := ⟨_, rfl⟩
   rw [← ea] at ia
   rw [← eb] at ib
   have mu := own_plain (pmul ia ib (by omega) (by omega) (by omega))
   have lm := tr_len (mulL a b)
   have lm2 := mulL_len b a
   have la := ia.len
   have lb := ib.len
   have hp : PL 20 (tr (mulL a b)) := (pl_tr (pl_mulG a b ia.pl ib.pl)).mono (by omega)
   have ip := isP_PZ hp
   have lp : (tr (mulL a b)).length ≤ 24 := by omega
   obtain ⟨p, hpe⟩ : ∃ p, p = tr (mulL a b) := ⟨_, rfl⟩
   have tp : tr p = p := by rw [hpe, tr_tr]
   have cell := ia.cell
   have geta := ia.get
   obtain ⟨A, hA⟩ : ∃ A, A = zL M1 := ⟨_, rfl⟩
   obtain ⟨B, hB⟩ : ∃ A, A = zL M2 := ⟨_, rfl⟩
   rw [← hA, ← hB] at sm mu ⊢
   rw [← hA] at cell geta al la
   rw [← hpe] at mu ip lp
   by_cases hw : wrE p = 0
   · obtain ⟨h0, hl⟩ := wrE_ok hw
     have bd := zbound ip (by omega) (by rw [PZ_length]; omega) hw
     rw [tp] at bd h0
     have fl := fun j => fac_le (a := a) (b := b) (by rw [← hpe]; omega) (by rw [← hpe]; exact h0) j
     rw [← hpe] at fl
     have bl2 := bnd_lim (a := p) (by rw [hpe]; exact hp) (by omega) hw
     rw [tp] at bl2
     obtain ⟨m, hm⟩ : ∃ m, m = bndZ p := ⟨_, rfl⟩
     rw [← hm] at bd fl bl2
     obtain ⟨P, hP⟩ : ∃ A, A = PZ p := ⟨_, rfl⟩
     rw [← hP] at mu bd
     refine spec_at Tryz.func6 ok_law12_ZsqfBound [] rfl (by simp) ?_
     unfold sc_law12_ZsqfBound
     refine Wr ?_; simp
     refine Wr ?_; simp
     refine callK aw ?_; simp
     refine Ws ?_; simp
     refine callK sm ?_; simp
     refine WS_cF (by simp) ?_
     refine WS_skip ?_; simp
     refine Wr ?_; simp
     refine callK mu ?_; simp
     refine callK bd ?_; simp
     refine Ws ?_; simp
     refine WS_cF (by simp) ?_
     refine WS_skip ?_; simp
     refine Ws ?_; simp
     refine WS_block ?_
     refine WS_loop (BnS A m) (fun S => A.length - nM 8 S) ⟨0, by omega, rfl, rfl, by simp, rfl, rfl⟩ ?_
     clear mu bd aw sm
     rintro S ⟨i, hi, s0, s5, s8, s6, h6⟩
     have d8 := nM_eq s8
     by_cases hlt : i < A.length
     · have hltI : (i : Int) < (A.length : Int) := by omega
       obtain ⟨n, d, hvi, hzw, hzi⟩ := cell i hlt
       have ge := geta i hlt
       have fi := fl i
       have c1 := zcmp (ge.mono (show 4 ≤ 2 ^ 13 by omega)) (isZ_of bl2) (by omega)
       have n1 := zneg (ge.mono (show 4 ≤ 2 ^ 13 by omega)) (by omega)
       have hz : zlen (-cf a i) ≤ 2 ^ 13 := by rw [zlen_neg]; exact Nat.le_trans (ia.pl i) (by omega)
       have c2 := zcmp (isZ_of hz) (isZ_of bl2) (by omega)
       have q1 : ¬ 0 < (cf a i - m).sign := by rw [Int.sign_pos_iff]; omega
       have q2 : ¬ 0 < (-cf a i - m).sign := by rw [Int.sign_pos_iff]; omega
       rw [hvi] at c1 n1
       have wi := i64_succ i (by omega)
       obtain ⟨x1, hx1⟩ : ∃ x, x = (cf a i - m).sign := ⟨_, rfl⟩
       obtain ⟨x2, hx2⟩ : ∃ x, x = (-cf a i - m).sign := ⟨_, rfl⟩
       rw [← hx1] at c1 q1
       rw [← hx2] at c2 q2
       obtain ⟨y, hy⟩ : ∃ x, x = -cf a i := ⟨_, rfl⟩
       rw [← hy] at n1 c2
       refine Ws ?_; simp [s0, s5, s8, s6, h6, hlt, hltI, hvi, wi, q1, q2]
       refine WS_cT (by simp [s0, s5, s8, s6, h6, hlt, hltI, hvi, wi, q1, q2]) ?_
       refine WS_skip ?_; simp [s0, s5, s8, s6, h6, hlt, hltI, hvi, wi, q1, q2]
       refine WS_seq (WS_block (WS_seq (WS_regD [] ?_))); simp [s0, s5, s8, s6, h6, hlt, hltI, hvi, wi, q1, q2]
       refine callD c1 rfl ?_; simp [s0, s5, s8, s6, h6, hlt, hltI, hvi, wi, q1, q2]
       refine callD n1 rfl ?_; simp [s0, s5, s8, s6, h6, hlt, hltI, hvi, wi, q1, q2]
       refine callD c2 rfl ?_; simp [s0, s5, s8, s6, h6, hlt, hltI, hvi, wi, q1, q2]
       refine ⟨rfl, ?_⟩
       refine WS_cF (by simp [s0, s5, s8, s6, h6, hlt, hltI, hvi, wi, q1, q2]) ?_
       refine WS_skip ?_; simp [s0, s5, s8, s6, h6, hlt, hltI, hvi, wi, q1, q2]
       refine WS_reg [] ?_; simp [s0, s5, s8, s6, h6, hlt, hltI, hvi, wi, q1, q2]
       refine ⟨⟨i + 1, by omega, by simp [s0], by simp [s5], by simp, by simp [s6], by simp [h6]⟩, ?_⟩
       show A.length - nM 8 _ < A.length - nM 8 S
       rw [d8, nM_eq (i := 8) (n := i + 1) (by simp)]
       omega
     · obtain rfl : i = A.length := by omega
       have hltI : ¬ (A.length : Int) < (A.length : Int) := by omega
       refine Ws ?_; simp [s0, s5, s8, s6, h6, hltI]
       refine WS_cF (by simp [s0, s5, s8, s6, h6, hltI]) ?_
       refine WS_exit ?_; simp [s0, s5, s8, s6, h6, hltI]
       refine Wr ?_; simp [s0, s5, s8, s6, h6, hltI]
       refine WS_ret ?_; simp [s0, s5, s8, s6, h6, hltI]
   · have bd := zbound_wrong ip (by omega) (by rw [PZ_length]; omega) hw
     have e8 : wrE p = 8 := by
      rw [wrE] at hw ⊢
      rw [tp] at hw ⊢
      split
      · rfl
      · rename_i h9
        rw [if_neg h9, if_neg (by omega)] at hw
        exact absurd rfl hw
     rw [e8] at bd
     obtain ⟨P, hP⟩ : ∃ A, A = PZ p := ⟨_, rfl⟩
     rw [← hP] at mu bd
     refine spec_at Tryz.func6 ok_law12_ZsqfBound [] rfl (by simp) ?_
     unfold sc_law12_ZsqfBound
     refine Wr ?_; simp [Z_zero]
     refine Wr ?_; simp [Z_zero]
     refine callK aw ?_; simp [Z_zero]
     refine Ws ?_; simp [Z_zero]
     refine callK sm ?_; simp [Z_zero]
     refine WS_cF (by simp [Z_zero]) ?_
     refine WS_skip ?_; simp [Z_zero]
     refine Wr ?_; simp [Z_zero]
     refine callK mu ?_; simp [Z_zero]
     refine callK bd ?_; simp [Z_zero]
     refine Ws ?_; simp [Z_zero]
     refine WS_cT (by simp [Z_zero]) ?_
     refine Wr ?_; simp [Z_zero]
     refine WS_ret ?_; simp [Z_zero]
 · have hs' : smB 12 4 [M1, M2] = false := by simpa using hs
   rw [hs'] at sm
   refine spec_at Tryz.func6 ok_law12_ZsqfBound [] rfl (by simp) ?_
   unfold sc_law12_ZsqfBound
   refine Wr ?_; simp
   refine Wr ?_; simp
   refine callK aw ?_; simp
   refine Ws ?_; simp
   refine callK sm ?_; simp
   refine WS_cT (by simp) ?_
   refine Wr ?_; simp
   refine WS_ret ?_; simp
set_option maxHeartbeats 4000000 in
theorem law_ZsqfProduct (M1 : List (Bool × List Nat)) (h1 : PW (2 ^ 24) M1) : Spec Tryz.prog f_law12_ZsqfProduct [.sl (some 2) (zL M1)] (· = [.pure (.b true)]) := by
 have aw := awake12
 have sm := small12 14 1 (by omega) (by omega) [M1] (by simp) (by
  intro M hM
  simp only [List.mem_cons, List.not_mem_nil, or_false] at hM
  subst hM
  have := h1.len; omega)
 have eL : mL [M1] = [.sl (some 2) (zL M1)] := rfl
 rw [eL] at sm
 by_cases hs : smB 14 1 [M1] = true
 · obtain ⟨ia, al⟩ := isP_small h1.each (small_of hs (M := M1) (by simp))
   rw [hs] at sm
   obtain ⟨a, ea⟩ : ∃ a, a = piL M1 := ⟨_, rfl⟩
   rw [← ea] at ia
   have la := ia.len
   have nm := own_plain (pnorm ia (by omega) (by omega))
   have lta := tr_len a
   have xl := PZ_length (tr a)
   by_cases hw : wrE a = 0
   · obtain ⟨h0, hl⟩ := wrE_ok hw
     have hl2 : (tr a).length ≤ 14 := by omega
     obtain ⟨qs, hd, hq⟩ := dc_ex2 ia.pl h0 (by omega)
     have c1 := zParts ia (by omega) (by omega) hd (by omega) hw
     have co := pcontent ia (by omega) (by omega)
     have sa := same12 (tr a) ((pl_tr ia.pl).mono (by omega)) (by omega)
     have pt := partV_told qs 1
     have rise := told_rise qs 1
     have tev := tP_ev qs 1 hd.ok
     have tco := told_co (n := 1) hd.ok
     have tm : ∀ p ∈ told 1 qs, 1 ≤ p.2 ∧ PL 4 p.1 ∧ p.1.length ≤ 25 ∧ 2 ≤ p.1.length ∧ tr p.1 = p.1 := fun p hp => by
      obtain ⟨h1, q, h2, h3, h4⟩ := told_mem hp
      have := hd.part h2
      rw [h3]
      exact ⟨h1, this.1, this.2, h4, tr_tr _⟩
     have pla := pl_tr ia.pl
     have hmul := ppL_mul a
     have hev : ∀ x, evL x a = coL a * evL x (tP (told 1 qs)) := fun x => by rw [tev, ← hd.ev, evL_eqp x hmul, evL_scL]
     have hc0 : coL a ≠ 0 := fun h => h0 (coL_zero.1 h)
     have lim : ∀ (d o : List Int), (∀ x, evL x a = evL x d * evL x o) → PL 2 o ∧ (tr o).length ≤ 14 ∧ (tr d).length ≤ 14 := fun d o h => by
      have e : Eqp (tr a) (mulL d o) := eqp_ev fun x => by rw [evL_eqp x (cf_tr a), h, evL_mulL]
      have e2 : Eqp (tr a) (mulL o d) := eqp_ev fun x => by rw [evL_eqp x (cf_tr a), h, evL_mulL, Int.mul_comm]
      have h3 := dv_len (d := o) (a := tr a) ⟨d, e⟩ (by rw [tr_tr]; exact h0)
      have h4 := dv_len (d := d) (a := tr a) ⟨o, e2⟩ (by rw [tr_tr]; exact h0)
      rw [tr_tr] at h3 h4
      exact ⟨pl_div pla e (by rw [tr_tr]; exact h0) (by rw [tr_tr]; omega), by omega, by omega⟩
     obtain ⟨L, hL⟩ : ∃ L, L = told 1 qs := ⟨_, rfl⟩
     rw [← hL] at pt rise tco tm hev
     have lL : L.length ≤ 25 := by have := partV_len qs 1; rw [pt, List.length_map] at this; omega
     obtain ⟨X, hX⟩ : ∃ X, X = partV 1 qs := ⟨_, rfl⟩
     rw [← hX] at c1 pt
     have xL : X.length = L.length := by rw [pt, List.length_map]
     have gX : ∀ i (h : i < L.length) (h' : i < X.length), X[i] = .agg [.sl (some 2) (PZ L[i].1), .i .i64 (L[i].2 : Int)] := fun i h h' => by subst pt; simp [tV]
     have m14 : ∀ p ∈ L, p.2 ≤ 13 := fun p hm => by
      obtain ⟨pre, rest, e⟩ := List.append_of_mem hm
      have hx : ∀ x, evL x a = coL a * evL x (tP (pre ++ p :: rest)) := by rw [← e]; exact hev
      have h3 := (lim (powL p.1 p.2) (mulL [coL a] (mulL (tP pre) (tP rest))) fun x => by
       rw [hx, tP_app, tP, evL_mulL, evL_mulL, evL_mulL, show evL x [coL a] = coL a by simp [evL]]
       grind).2.2
      have h4 := (tm _ hm).2.2.2
      have h5 := powL_len (tco _ hm) (by rw [h4.2]; exact h4.1) p.2
      omega
     have fin : ∀ o, tr o = o → (∀ x, evL x a = evL x o) → o = tr a := fun o h1 h2 => by rw [tr_of_eqp (eqp_ev h2), h1]
     clear hs ea
     obtain ⟨A, hA⟩ : ∃ A, A = zL M1 := ⟨_, rfl⟩
     rw [← hA] at nm sm c1 co ⊢
     obtain ⟨T, hT⟩ : ∃ A, A = PZ (tr a) := ⟨_, rfl⟩
     rw [← hT] at nm sa xl
     have i0 : ∀ x, evL x a = evL x (tP (L.drop 0)) * evL x [coL a] := fun x => by rw [hev, List.drop_zero, show evL x [coL a] = coL a by simp [evL], Int.mul_comm]
     have t0 : tr [coL a] = [coL a] := by simp [tr, hc0]
     obtain ⟨c, hc⟩ : ∃ c, c = coL a := ⟨_, rfl⟩
     rw [← hc] at co i0 t0
     refine spec_at Tryz.func5 ok_law12_ZsqfProduct [] rfl (by simp) ?_
     unfold sc_law12_ZsqfProduct
     refine Wr ?_; simp
     refine Wr ?_; simp
     refine callK aw ?_; simp
     refine Ws ?_; simp
     refine callK sm ?_; simp
     refine WS_cF (by simp) ?_
     refine WS_skip ?_; simp
     refine Wr ?_; simp
     refine callK c1 ?_; simp
     refine Ws ?_; simp
     refine WS_cF (by simp) ?_
     refine WS_skip ?_; simp
     refine Wr ?_; simp
     refine callK co ?_; simp
     refine Ws ?_; simp
     refine WS_block ?_
     refine WS_loop (PrS X L A a) (fun S => L.length - nM 7 S) ⟨0, [c], by omega, t0, i0, rfl, rfl, rfl, rfl, by simp⟩ ?_
     clear aw sm c1 co i0 t0
     rintro S ⟨i, o, hi, to, ho, s0, s3, s4, s6, s7⟩
     have d7 := nM_eq s7
     by_cases hlt : i < L.length
     · have hltX : i < X.length := by omega
       have hltI : (i : Int) < (X.length : Int) := by omega
       have hg := gX i hlt hltX
       have hm := List.getElem_mem hlt
       have hm14 := m14 _ hm
       obtain ⟨m1, m2, m3, m4, m5⟩ := tm _ hm
       have hdr := List.drop_eq_getElem_cons hlt
       rw [hdr] at ho
       have wi := i64_succ i (by omega)
       obtain ⟨p, hp⟩ : ∃ p, p = L[i] := ⟨_, rfl⟩
       have hprev : ∀ (h : 0 < i), L[i - 1].2 < p.2 := fun h => by rw [hp]; exact List.pairwise_iff_getElem.1 rise (i - 1) i (by omega) hlt (by omega)
       rw [← hp] at hg hm hm14 m1 m2 m3 m4 m5 ho
       clear hdr hp
       obtain ⟨q, m⟩ := p
       simp only at hg hm14 m1 m2 m3 m4 m5 hprev
       have ho0 : ∀ x, evL x a = evL x q ^ (m - 0) * evL x (tP (L.drop (i + 1))) * evL x o := fun x => by rw [ho, tP, evL_mulL, ev_pow, Nat.sub_zero]
       have n1 : ¬ (m : Int) < 1 := by omega
       have n2 : ¬ (14 : Int) < (m : Int) := by omega
       have n3 : m ≠ 0 := by omega
       obtain ⟨W, hW⟩ : ∃ W, W = PZ q := ⟨_, rfl⟩
       rw [← hW] at hg
       by_cases hi0 : i = 0
       · have hi1 : ¬ (0 : Int) < (i : Int) := by omega
         have hi2 : ¬ 0 < i := by omega
         obtain ⟨O0, hO0⟩ : ∃ O, O = PZ o := ⟨_, rfl⟩
         rw [← hO0] at s6
         refine Ws ?_; simp [s0, s3, s4, s6, s7, hlt, hltI, hltX, hg, n1, n2, n3, hi1, hi2]
         refine WS_cT (by simp [s0, s3, s4, s6, s7, hlt, hltI, hltX, hg, n1, n2, n3, hi1, hi2]) ?_
         refine WS_skip ?_; simp [s0, s3, s4, s6, s7, hlt, hltI, hltX, hg, n1, n2, n3, hi1, hi2]
         refine WS_seq (WS_block (WS_seq (WS_seq (WS_regD [] ?_)))); simp [s0, s3, s4, s6, s7, hlt, hltI, hltX, hg, n1, n2, n3, hi1, hi2]
         refine ⟨rfl, ?_⟩
         refine WS_cF (by simp [s0, s3, s4, s6, s7, hlt, hltI, hltX, hg, n1, n2, n3, hi1, hi2]) ?_
         refine WS_skip ?_; simp [s0, s3, s4, s6, s7, hlt, hltI, hltX, hg, n1, n2, n3, hi1, hi2]
         refine Wr ?_; simp [s0, s3, s4, s6, s7, hlt, hltI, hltX, hg, n1, n2, n3, hi1, hi2]
         refine WS_block ?_
         refine WS_loop (PrJ X L A a i q m) (fun S' => m - nM 8 S') ⟨0, o, by omega, to, ho0, by simp [s0], by simp [s3], by simp [s4], by simp [s6, hO0], by simp [s7], by simp⟩ ?_
         clear s0 s3 s4 s6 s7
         rintro S' ⟨k, o', hk, to', ho', t0, t3, t4, t6, t7, t8⟩
         have d8 := nM_eq t8
         obtain ⟨q1, q2, q3⟩ := lim (mulL (powL q (m - k)) (tP (L.drop (i + 1)))) o' (fun x => by rw [ho', evL_mulL, ev_pow])
         rw [to'] at q2
         by_cases hk2 : k < m
         · have hkI : (k : Int) < (m : Int) := by omega
           have mu := own_plain (pmul (isP_PZ (q1.mono (show 2 ≤ 4 by omega))) (isP_PZ m2) (by omega) (by rw [PZ_length]; omega) (by rw [PZ_length]; omega))
           have wk := i64_succ k (by omega)
           have ho2 : ∀ x, evL x a = evL x q ^ (m - (k + 1)) * evL x (tP (L.drop (i + 1))) * evL x (tr (mulL o' q)) := fun x => by
            rw [ho', evL_eqp x (cf_tr _), evL_mulL, show m - k = (m - (k + 1)) + 1 by omega, Int.pow_succ]
            grind
           obtain ⟨O, hO⟩ : ∃ O, O = PZ o' := ⟨_, rfl⟩
           obtain ⟨O2, hO2⟩ : ∃ O, O = PZ (tr (mulL o' q)) := ⟨_, rfl⟩
           rw [← hO] at t6 mu
           rw [← hO2, ← hW] at mu
           refine Ws ?_; simp [t0, t3, t4, t6, t7, t8, hltX, hltI, hg, hk2, hkI, wk]
           refine WS_cT (by simp [t0, t3, t4, t6, t7, t8, hltX, hltI, hg, hk2, hkI, wk]) ?_
           refine WS_skip ?_; simp [t0, t3, t4, t6, t7, t8, hltX, hltI, hg, hk2, hkI, wk]
           refine WS_seq (WS_block (WS_reg [] ?_)); simp [t0, t3, t4, t6, t7, t8, hltX, hltI, hg, hk2, hkI, wk]
           refine callK mu ?_; simp [t0, t3, t4, t6, t7, t8, hltX, hltI, hg, hk2, hkI, wk]
           refine WS_reg [] ?_; simp [t0, t3, t4, t6, t7, t8, hltX, hltI, hg, hk2, hkI, wk]
           refine ⟨⟨k + 1, tr (mulL o' q), by omega, tr_tr _, ho2, by simp [t0], by simp [t3], by simp [t4], by simp [hO2], by simp [t7], by simp⟩, ?_⟩
           show m - nM 8 _ < m - nM 8 S'
           rw [d8, nM_eq (i := 8) (n := k + 1) (by simp)]
           omega
         · obtain rfl : k = m := by omega
           have hkI : ¬ (k : Int) < (k : Int) := by omega
           have ho3 : ∀ x, evL x a = evL x (tP (L.drop (i + 1))) * evL x o' := fun x => by rw [ho', Nat.sub_self, Int.pow_zero, Int.one_mul]
           obtain ⟨O, hO⟩ : ∃ O, O = PZ o' := ⟨_, rfl⟩
           rw [← hO] at t6
           refine Ws ?_; simp [t0, t3, t4, t6, t7, t8, hltX, hltI, hg, hkI, wi]
           refine WS_cF (by simp [t0, t3, t4, t6, t7, t8, hltX, hltI, hg, hkI, wi]) ?_
           refine WS_exit ?_; simp [t0, t3, t4, t6, t7, t8, hltX, hltI, hg, hkI, wi]
           refine WS_reg [] ?_; simp [t0, t3, t4, t6, t7, t8, hltX, hltI, hg, hkI, wi]
           refine ⟨⟨i + 1, o', by omega, to', ho3, by simp [t0], by simp [t3], by simp [t4], by simp [t6, hO], by simp⟩, ?_⟩
           show L.length - nM 7 _ < L.length - nM 7 S
           rw [d7, nM_eq (i := 7) (n := i + 1) (by simp)]
           omega
       · have hi1 : (0 : Int) < (i : Int) := by omega
         have hi2 : 0 < i := by omega
         have hpv := hprev hi2
         have hg2 := gX (i - 1) (by omega) (by omega)
         obtain ⟨p', hp'⟩ : ∃ p, p = L[i - 1] := ⟨_, rfl⟩
         rw [← hp'] at hpv hg2
         obtain ⟨q', m'⟩ := p'
         simp only at hpv hg2
         have hpvI : ¬ (m : Int) ≤ (m' : Int) := by omega
         have wp := i64_pred i (by omega) hi2
         have hlt1 : i - 1 < X.length := by omega
         have hlt1I : ((i - 1 : Nat) : Int) < (X.length : Int) := by omega
         have hpv2 : ¬ m ≤ m' := by omega
         obtain ⟨W', hW'⟩ : ∃ W, W = PZ q' := ⟨_, rfl⟩
         rw [← hW'] at hg2
         obtain ⟨O0, hO0⟩ : ∃ O, O = PZ o := ⟨_, rfl⟩
         rw [← hO0] at s6
         refine Ws ?_; simp [s0, s3, s4, s6, s7, hlt, hltI, hltX, hg, n1, n2, n3, hi1, hi2, hg2, hpvI, wp, hlt1, hlt1I, hpv2]
         refine WS_cT (by simp [s0, s3, s4, s6, s7, hlt, hltI, hltX, hg, n1, n2, n3, hi1, hi2, hg2, hpvI, wp, hlt1, hlt1I, hpv2]) ?_
         refine WS_skip ?_; simp [s0, s3, s4, s6, s7, hlt, hltI, hltX, hg, n1, n2, n3, hi1, hi2, hg2, hpvI, wp, hlt1, hlt1I, hpv2]
         refine WS_seq (WS_block (WS_seq (WS_seq (WS_regD [] ?_)))); simp [s0, s3, s4, s6, s7, hlt, hltI, hltX, hg, n1, n2, n3, hi1, hi2, hg2, hpvI, wp, hlt1, hlt1I, hpv2]
         refine ⟨rfl, ?_⟩
         refine WS_cF (by simp [s0, s3, s4, s6, s7, hlt, hltI, hltX, hg, n1, n2, n3, hi1, hi2, hg2, hpvI, wp, hlt1, hlt1I, hpv2]) ?_
         refine WS_skip ?_; simp [s0, s3, s4, s6, s7, hlt, hltI, hltX, hg, n1, n2, n3, hi1, hi2, hg2, hpvI, wp, hlt1, hlt1I, hpv2]
         refine Wr ?_; simp [s0, s3, s4, s6, s7, hlt, hltI, hltX, hg, n1, n2, n3, hi1, hi2, hg2, hpvI, wp, hlt1, hlt1I, hpv2]
         refine WS_block ?_
         refine WS_loop (PrJ X L A a i q m) (fun S' => m - nM 8 S') ⟨0, o, by omega, to, ho0, by simp [s0], by simp [s3], by simp [s4], by simp [s6, hO0], by simp [s7], by simp⟩ ?_
         clear s0 s3 s4 s6 s7
         rintro S' ⟨k, o', hk, to', ho', t0, t3, t4, t6, t7, t8⟩
         have d8 := nM_eq t8
         obtain ⟨q1, q2, q3⟩ := lim (mulL (powL q (m - k)) (tP (L.drop (i + 1)))) o' (fun x => by rw [ho', evL_mulL, ev_pow])
         rw [to'] at q2
         by_cases hk2 : k < m
         · have hkI : (k : Int) < (m : Int) := by omega
           have mu := own_plain (pmul (isP_PZ (q1.mono (show 2 ≤ 4 by omega))) (isP_PZ m2) (by omega) (by rw [PZ_length]; omega) (by rw [PZ_length]; omega))
           have wk := i64_succ k (by omega)
           have ho2 : ∀ x, evL x a = evL x q ^ (m - (k + 1)) * evL x (tP (L.drop (i + 1))) * evL x (tr (mulL o' q)) := fun x => by
            rw [ho', evL_eqp x (cf_tr _), evL_mulL, show m - k = (m - (k + 1)) + 1 by omega, Int.pow_succ]
            grind
           obtain ⟨O, hO⟩ : ∃ O, O = PZ o' := ⟨_, rfl⟩
           obtain ⟨O2, hO2⟩ : ∃ O, O = PZ (tr (mulL o' q)) := ⟨_, rfl⟩
           rw [← hO] at t6 mu
           rw [← hO2, ← hW] at mu
           refine Ws ?_; simp [t0, t3, t4, t6, t7, t8, hltX, hltI, hg, hk2, hkI, wk]
           refine WS_cT (by simp [t0, t3, t4, t6, t7, t8, hltX, hltI, hg, hk2, hkI, wk]) ?_
           refine WS_skip ?_; simp [t0, t3, t4, t6, t7, t8, hltX, hltI, hg, hk2, hkI, wk]
           refine WS_seq (WS_block (WS_reg [] ?_)); simp [t0, t3, t4, t6, t7, t8, hltX, hltI, hg, hk2, hkI, wk]
           refine callK mu ?_; simp [t0, t3, t4, t6, t7, t8, hltX, hltI, hg, hk2, hkI, wk]
           refine WS_reg [] ?_; simp [t0, t3, t4, t6, t7, t8, hltX, hltI, hg, hk2, hkI, wk]
           refine ⟨⟨k + 1, tr (mulL o' q), by omega, tr_tr _, ho2, by simp [t0], by simp [t3], by simp [t4], by simp [hO2], by simp [t7], by simp⟩, ?_⟩
           show m - nM 8 _ < m - nM 8 S'
           rw [d8, nM_eq (i := 8) (n := k + 1) (by simp)]
           omega
         · obtain rfl : k = m := by omega
           have hkI : ¬ (k : Int) < (k : Int) := by omega
           have ho3 : ∀ x, evL x a = evL x (tP (L.drop (i + 1))) * evL x o' := fun x => by rw [ho', Nat.sub_self, Int.pow_zero, Int.one_mul]
           obtain ⟨O, hO⟩ : ∃ O, O = PZ o' := ⟨_, rfl⟩
           rw [← hO] at t6
           refine Ws ?_; simp [t0, t3, t4, t6, t7, t8, hltX, hltI, hg, hkI, wi]
           refine WS_cF (by simp [t0, t3, t4, t6, t7, t8, hltX, hltI, hg, hkI, wi]) ?_
           refine WS_exit ?_; simp [t0, t3, t4, t6, t7, t8, hltX, hltI, hg, hkI, wi]
           refine WS_reg [] ?_; simp [t0, t3, t4, t6, t7, t8, hltX, hltI, hg, hkI, wi]
           refine ⟨⟨i + 1, o', by omega, to', ho3, by simp [t0], by simp [t3], by simp [t4], by simp [t6, hO], by simp⟩, ?_⟩
           show L.length - nM 7 _ < L.length - nM 7 S
           rw [d7, nM_eq (i := 7) (n := i + 1) (by simp)]
           omega
     · obtain rfl : i = L.length := by omega
       have hltI : ¬ (L.length : Int) < (X.length : Int) := by omega
       rw [List.drop_length] at ho
       obtain rfl := fin o to fun x => by rw [ho, show tP [] = [1] from rfl, ev_one, Int.one_mul]
       rw [← hT] at s6
       refine Ws ?_; simp [s0, s3, s4, s6, s7, hltI]
       refine WS_cF (by simp [s0, s3, s4, s6, s7, hltI]) ?_
       refine WS_exit ?_; simp [s0, s3, s4, s6, s7, hltI]
       refine Wr ?_; simp [s0, s3, s4, s6, s7, hltI]
       refine callK nm ?_; simp [s0, s3, s4, s6, s7, hltI]
       refine callK sa ?_; simp [s0, s3, s4, s6, s7, hltI]
       refine WS_ret ?_; simp [s0, s3, s4, s6, s7, hltI]
   · have c1 := zParts_wrong ia (by omega) (by omega) hw
     have e8 : wrE a = 8 ∧ (tr a).length = 0 := by
      rw [wrE] at hw ⊢
      split
      · rename_i h; exact ⟨rfl, h⟩
      · rename_i h9
        rw [if_neg h9, if_neg (by omega)] at hw
        exact absurd rfl hw
     rw [e8.1] at c1
     rw [e8.2] at xl
     obtain ⟨A, hA⟩ : ∃ A, A = zL M1 := ⟨_, rfl⟩
     rw [← hA] at nm sm c1 ⊢
     obtain ⟨T, hT⟩ : ∃ A, A = PZ (tr a) := ⟨_, rfl⟩
     rw [← hT] at nm xl
     refine spec_at Tryz.func5 ok_law12_ZsqfProduct [] rfl (by simp) ?_
     unfold sc_law12_ZsqfProduct
     refine Wr ?_; simp [xl]
     refine Wr ?_; simp [xl]
     refine callK aw ?_; simp [xl]
     refine Ws ?_; simp [xl]
     refine callK sm ?_; simp [xl]
     refine WS_cF (by simp [xl]) ?_
     refine WS_skip ?_; simp [xl]
     refine Wr ?_; simp [xl]
     refine callK c1 ?_; simp [xl]
     refine Ws ?_; simp [xl]
     refine WS_cT (by simp [xl]) ?_
     refine Wr ?_; simp [xl]
     refine callK nm ?_; simp [xl]
     refine WS_ret ?_; simp [xl]
 · have hs' : smB 14 1 [M1] = false := by simpa using hs
   rw [hs'] at sm
   refine spec_at Tryz.func5 ok_law12_ZsqfProduct [] rfl (by simp) ?_
   unfold sc_law12_ZsqfProduct
   refine Wr ?_; simp
   refine Wr ?_; simp
   refine callK aw ?_; simp
   refine Ws ?_; simp
   refine callK sm ?_; simp
   refine WS_cT (by simp) ?_
   refine Wr ?_; simp
   refine WS_ret ?_; simp
set_option maxHeartbeats 4000000 in
theorem law_ZsqfApart (M1 : List (Bool × List Nat)) (h1 : PW (2 ^ 24) M1) : Spec Tryz.prog f_law12_ZsqfApart [.sl (some 2) (zL M1)] (· = [.pure (.b true)]) := by
 have aw := awake12
 have sm := small12 14 1 (by omega) (by omega) [M1] (by simp) (by
  intro M hM
  simp only [List.mem_cons, List.not_mem_nil, or_false] at hM
  subst hM
  have := h1.len; omega)
 have eL : mL [M1] = [.sl (some 2) (zL M1)] := rfl
 rw [eL] at sm
 by_cases hs : smB 14 1 [M1] = true
 · obtain ⟨ia, al⟩ := isP_small h1.each (small_of hs (M := M1) (by simp))
   rw [hs] at sm
   obtain ⟨a, ea⟩ : ∃ a, a = piL M1 := ⟨_, rfl⟩
   rw [← ea] at ia
   have la := ia.len
   have lta := tr_len a
   by_cases hw : wrE a = 0
   · obtain ⟨h0, hl⟩ := wrE_ok hw
     obtain ⟨qs, hd, hq⟩ := dc_ex2 ia.pl h0 (by omega)
     have c1 := zParts ia (by omega) (by omega) hd (by omega) hw
     have pt := partV_told qs 1
     have cop := told_cop qs 1 hd.ok
     have tm : ∀ p ∈ told 1 qs, PL 4 p.1 ∧ p.1.length ≤ 25 ∧ 2 ≤ p.1.length ∧ tr p.1 = p.1 ∧ coL p.1 = 1 ∧ Cop p.1 (deL p.1) := fun p hp => by
      obtain ⟨h1, q, h2, h3, h4⟩ := told_mem hp
      have := hd.part h2
      have h5 := OkL.sq hd.ok h2
      rw [h3]
      exact ⟨this.1, this.2, h4, tr_tr _, h5⟩
     obtain ⟨L, hL⟩ : ∃ L, L = told 1 qs := ⟨_, rfl⟩
     rw [← hL] at pt cop tm
     have lL : L.length ≤ 25 := by have := partV_len qs 1; rw [pt, List.length_map] at this; omega
     obtain ⟨X, hX⟩ : ∃ X, X = partV 1 qs := ⟨_, rfl⟩
     rw [← hX] at c1 pt
     have xL : X.length = L.length := by rw [pt, List.length_map]
     have gX : ∀ i (h : i < L.length) (h' : i < X.length), X[i] = .agg [.sl (some 2) (PZ L[i].1), .i .i64 (L[i].2 : Int)] := fun i h h' => by subst pt; simp [tV]
     clear hs ea
     obtain ⟨A, hA⟩ : ∃ A, A = zL M1 := ⟨_, rfl⟩
     rw [← hA] at sm c1 ⊢
     have of1 := ofc (l := [1]) (by decide) (by decide) (by decide)
     have sa1 := same12 [1] ((pl_small (by decide)).mono (by omega)) (by decide)
     have l1 : (PZ [1]).length = 1 := by rw [PZ_length]; rfl
     obtain ⟨O1, hO1⟩ : ∃ O, O = PZ [1] := ⟨_, rfl⟩
     rw [← hO1] at of1 sa1 l1
     refine spec_at Tryz.func4 ok_law12_ZsqfApart [] rfl (by simp) ?_
     unfold sc_law12_ZsqfApart
     refine Wr ?_; simp
     refine Wr ?_; simp
     refine callK aw ?_; simp
     refine Ws ?_; simp
     refine callK sm ?_; simp
     refine WS_cF (by simp) ?_
     refine WS_skip ?_; simp
     refine Wr ?_; simp
     refine callK c1 ?_; simp
     refine Ws ?_; simp
     refine WS_cF (by simp) ?_
     refine WS_skip ?_; simp
     refine Ws ?_; simp
     refine WS_block ?_
     refine WS_loop (ApS X L.length) (fun S => L.length - nM 6 S) ⟨0, by omega, rfl, rfl, by simp⟩ ?_
     clear aw sm c1
     rintro S ⟨i, hi, s3, s4, s6⟩
     have d6 := nM_eq s6
     by_cases hlt : i < L.length
     · have hltX : i < X.length := by omega
       have hltI : (i : Int) < (X.length : Int) := by omega
       have hg := gX i hlt hltX
       have hm := List.getElem_mem hlt
       have wi := i64_succ i (by omega)
       obtain ⟨p, hp⟩ : ∃ p, p = L[i] := ⟨_, rfl⟩
       have hprev : ∀ k (h : k < i), Cop L[k].1 p.1 := fun k h => by rw [hp]; exact List.pairwise_iff_getElem.1 cop k i (by omega) hlt h
       rw [← hp] at hg hm
       obtain ⟨m2, m3, m4, m5, m6, m7⟩ := tm _ hm
       clear hp
       obtain ⟨q, m⟩ := p
       simp only at hg m2 m3 m4 m5 m6 m7 hprev
       obtain ⟨dq, dp, de⟩ := dc_one m2 m5 m3 m6 m7
       have is := zis (isP_PZ m2) (by omega) (by rw [PZ_length]; omega) (by rw [m5]; omega) (tr_ne_of_co m6) dq
       rw [de] at is
       have pr := own_plain (pprim (isP_PZ m2) (by omega) (by rw [PZ_length]; omega))
       rw [dp] at pr
       have sq := same12 q (m2.mono (by omega)) (by omega)
       have dr := own_plain (pderiv (isP_PZ m2) (by omega) (by rw [PZ_length]; omega))
       have gd := zgcd_de dq (by omega)
       rw [dp, de, ← hO1] at gd
       have gk : ∀ k (h : k < i), Spec Tryz.prog f_zgcd_Gcd [.sl (some 2) (PZ q), .sl (some 2) (PZ L[k].1)] (· = [.pure (.sl (some 2) O1)]) := fun k h => by
        obtain ⟨n2, n3, n4, n5, n6, n7⟩ := tm _ (List.getElem_mem (show k < L.length by omega))
        have := own_plain (ggcd2 (L := 25) (isP_PZ m2) (isP_PZ n2) (by rw [PZ_length]; omega) (by rw [PZ_length]; omega) (by rw [m5]; omega) (by rw [n5]; omega) (by omega) (by omega) (by omega))
        rw [gd_cop (hprev k h).symm m6, ← hO1] at this
        exact this
       have lq := PZ_length q
       obtain ⟨W, hW⟩ : ∃ W, W = PZ q := ⟨_, rfl⟩
       rw [← hW] at hg is pr sq dr gd gk lq
       obtain ⟨Dv, hDv⟩ : ∃ W, W = PZ (tr (deL q)) := ⟨_, rfl⟩
       rw [← hDv] at dr gd
       have l2 : ¬ (q.length : Int) < 2 := by omega
       have l3 : ¬ q.length < 2 := by omega
       refine Ws ?_; simp [s3, s4, s6, hlt, hltI, hltX, hg, lq, l2, l3, l1]
       refine WS_cT (by simp [s3, s4, s6, hlt, hltI, hltX, hg, lq, l2, l3, l1]) ?_
       refine WS_skip ?_; simp [s3, s4, s6, hlt, hltI, hltX, hg, lq, l2, l3, l1]
       refine WS_seq (WS_block (Wr ?_)); simp [s3, s4, s6, hlt, hltI, hltX, hg, lq, l2, l3, l1]
       refine Wr ?_; simp [s3, s4, s6, hlt, hltI, hltX, hg, lq, l2, l3, l1]
       refine callK is ?_; simp [s3, s4, s6, hlt, hltI, hltX, hg, lq, l2, l3, l1]
       refine Ws ?_; simp [s3, s4, s6, hlt, hltI, hltX, hg, lq, l2, l3, l1]
       refine callK pr ?_; simp [s3, s4, s6, hlt, hltI, hltX, hg, lq, l2, l3, l1]
       refine callK sq ?_; simp [s3, s4, s6, hlt, hltI, hltX, hg, lq, l2, l3, l1]
       refine callK dr ?_; simp [s3, s4, s6, hlt, hltI, hltX, hg, lq, l2, l3, l1]
       refine callK gd ?_; simp [s3, s4, s6, hlt, hltI, hltX, hg, lq, l2, l3, l1]
       refine WS_cF (by simp [s3, s4, s6, hlt, hltI, hltX, hg, lq, l2, l3, l1]) ?_
       refine WS_skip ?_; simp [s3, s4, s6, hlt, hltI, hltX, hg, lq, l2, l3, l1]
       refine Wr ?_; simp [s3, s4, s6, hlt, hltI, hltX, hg, lq, l2, l3, l1]
       refine WS_block ?_
       refine WS_loop (ApJ X W i) (fun S' => i - nM 10 S') ⟨0, by omega, by simp [s3], by simp [s4], by simp [s6], by simp, by simp⟩ ?_
       clear s3 s4 s6
       rintro S' ⟨k, hk, t3, t4, t6, t7, t10⟩
       have d10 := nM_eq t10
       by_cases hk2 : k < i
       · have hkI : (k : Int) < (i : Int) := by omega
         have hkX : k < X.length := by omega
         have hkXI : (k : Int) < (X.length : Int) := by omega
         have hgk := gX k (by omega) hkX
         have gg := gk k hk2
         have wk := i64_succ k (by omega)
         obtain ⟨p', hp'⟩ : ∃ p, p = L[k] := ⟨_, rfl⟩
         rw [← hp'] at hgk gg
         obtain ⟨q', m'⟩ := p'
         simp only at hgk gg
         obtain ⟨W', hW'⟩ : ∃ W, W = PZ q' := ⟨_, rfl⟩
         rw [← hW'] at hgk gg
         refine Ws ?_; simp [t3, t4, t6, t7, t10, hk2, hkI, hkX, hkXI, hgk, wk]
         refine WS_cT (by simp [t3, t4, t6, t7, t10, hk2, hkI, hkX, hkXI, hgk, wk]) ?_
         refine WS_skip ?_; simp [t3, t4, t6, t7, t10, hk2, hkI, hkX, hkXI, hgk, wk]
         refine WS_seq (WS_block (Wr ?_)); simp [t3, t4, t6, t7, t10, hk2, hkI, hkX, hkXI, hgk, wk]
         refine callK gg ?_; simp [t3, t4, t6, t7, t10, hk2, hkI, hkX, hkXI, hgk, wk]
         refine callK of1 ?_; simp [t3, t4, t6, t7, t10, hk2, hkI, hkX, hkXI, hgk, wk]
         refine callK sa1 ?_; simp [t3, t4, t6, t7, t10, hk2, hkI, hkX, hkXI, hgk, wk]
         refine WS_cF (by simp [t3, t4, t6, t7, t10, hk2, hkI, hkX, hkXI, hgk, wk]) ?_
         refine WS_skip ?_; simp [t3, t4, t6, t7, t10, hk2, hkI, hkX, hkXI, hgk, wk]
         refine WS_reg [] ?_; simp [t3, t4, t6, t7, t10, hk2, hkI, hkX, hkXI, hgk, wk]
         refine ⟨⟨k + 1, by omega, by simp [t3], by simp [t4], by simp [t6], by simp [t7], by simp⟩, ?_⟩
         show i - nM 10 _ < i - nM 10 S'
         rw [d10, nM_eq (i := 10) (n := k + 1) (by simp)]
         omega
       · obtain rfl : k = i := by omega
         have hkI : ¬ (k : Int) < (k : Int) := by omega
         refine Ws ?_; simp [t3, t4, t6, t7, t10, hkI, wi]
         refine WS_cF (by simp [t3, t4, t6, t7, t10, hkI, wi]) ?_
         refine WS_exit ?_; simp [t3, t4, t6, t7, t10, hkI, wi]
         refine WS_reg [] ?_; simp [t3, t4, t6, t7, t10, hkI, wi]
         refine ⟨⟨k + 1, by omega, by simp [t3], by simp [t4], by simp⟩, ?_⟩
         show L.length - nM 6 _ < L.length - nM 6 S
         rw [d6, nM_eq (i := 6) (n := k + 1) (by simp)]
         omega
     · obtain rfl : i = L.length := by omega
       have hltI : ¬ (L.length : Int) < (X.length : Int) := by omega
       refine Ws ?_; simp [s3, s4, s6, hltI]
       refine WS_cF (by simp [s3, s4, s6, hltI]) ?_
       refine WS_exit ?_; simp [s3, s4, s6, hltI]
       refine Wr ?_; simp [s3, s4, s6, hltI]
       refine WS_ret ?_; simp [s3, s4, s6, hltI]
   · have c1 := zParts_wrong ia (by omega) (by omega) hw
     obtain ⟨e, he⟩ : ∃ e, e = wrE a := ⟨_, rfl⟩
     rw [← he] at c1 hw
     obtain ⟨A, hA⟩ : ∃ A, A = zL M1 := ⟨_, rfl⟩
     rw [← hA] at sm c1 ⊢
     refine spec_at Tryz.func4 ok_law12_ZsqfApart [] rfl (by simp) ?_
     unfold sc_law12_ZsqfApart
     refine Wr ?_; simp [hw]
     refine Wr ?_; simp [hw]
     refine callK aw ?_; simp [hw]
     refine Ws ?_; simp [hw]
     refine callK sm ?_; simp [hw]
     refine WS_cF (by simp [hw]) ?_
     refine WS_skip ?_; simp [hw]
     refine Wr ?_; simp [hw]
     refine callK c1 ?_; simp [hw]
     refine Ws ?_; simp [hw]
     refine WS_cT (by simp [hw]) ?_
     refine Wr ?_; simp [hw]
     refine WS_ret ?_; simp [hw]
 · have hs' : smB 14 1 [M1] = false := by simpa using hs
   rw [hs'] at sm
   refine spec_at Tryz.func4 ok_law12_ZsqfApart [] rfl (by simp) ?_
   unfold sc_law12_ZsqfApart
   refine Wr ?_; simp
   refine Wr ?_; simp
   refine callK aw ?_; simp
   refine Ws ?_; simp
   refine callK sm ?_; simp
   refine WS_cT (by simp) ?_
   refine Wr ?_; simp
   refine WS_ret ?_; simp
set_option maxHeartbeats 8000000 in
theorem law_ZsqfPowers (M1 : List (Bool × List Nat)) (h1 : PW (2 ^ 24) M1) (n : Int) (hn1 : -9223372036854775808 ≤ n) (hn2 : n ≤ 9223372036854775807) :
 Spec Tryz.prog f_law12_ZsqfPowers [.sl (some 2) (zL M1), .i .i64 n] (· = [.pure (.b true)]) := by
 have aw := awake12
 have sm := small12 5 1 (by omega) (by omega) [M1] (by simp) (by
  intro M hM
  simp only [List.mem_cons, List.not_mem_nil, or_false] at hM
  subst hM
  have := h1.len; omega)
 have eL : mL [M1] = [.sl (some 2) (zL M1)] := rfl
 rw [eL] at sm
 by_cases hs : smB 5 1 [M1] = true
 · obtain ⟨ia, al⟩ := isP_small h1.each (small_of hs (M := M1) (by simp))
   rw [hs] at sm
   obtain ⟨a, ea⟩ : ∃ a, a = piL M1 := ⟨_, rfl⟩
   rw [← ea] at ia
   have la := ia.len
   have lta := tr_len a
   clear hs ea
   have an := abin_and3 n
   obtain ⟨r, hr⟩ := Int.eq_ofNat_of_zero_le (show 0 ≤ n % 4 by omega)
   have hr4 : r < 4 := by omega
   rw [hr] at an
   clear hr
   have wr : IntKind.i64.wrap (1 + (r : Int)) = ((r + 1 : Nat) : Int) := by rw [i64_int _ (by omega) (by omega)]; omega
   obtain ⟨K, hK⟩ : ∃ K, K = r + 1 := ⟨_, rfl⟩
   rw [← hK] at wr
   have of1 := ofc (l := [1]) (by decide) (by decide) (by decide)
   obtain ⟨A, hA⟩ : ∃ A, A = zL M1 := ⟨_, rfl⟩
   rw [← hA] at sm ia al la ⊢
   refine spec_at Tryz.func8 ok_law12_ZsqfPowers [] rfl (by simp) ?_
   unfold sc_law12_ZsqfPowers
   refine Wr ?_; simp [an, wr]
   refine Wr ?_; simp [an, wr]
   refine callK aw ?_; simp [an, wr]
   refine Ws ?_; simp [an, wr]
   refine callK sm ?_; simp [an, wr]
   refine WS_cF (by simp [an, wr]) ?_
   refine WS_skip ?_; simp [an, wr]
   refine Wr ?_; simp [an, wr]
   refine Wr ?_; simp [an, wr]
   refine callK of1 ?_; simp [an, wr]
   refine Ws ?_; simp [an, wr]
   refine WS_block ?_
   refine WS_loop (PwS A a K) (fun S => K - nM 8 S) ⟨0, [1], by omega, fun x => by rw [ev_one, Int.pow_zero], pl_small (by decide), by decide, by simp, by simp, by simp, by simp, by simp⟩ ?_
   clear aw sm
   rintro S ⟨i, b, hi, he, hb, lb, s0, s5, s6, s7, s8⟩
   have d8 := nM_eq s8
   by_cases hlt : i < K
   · have hltI : (i : Int) < (K : Int) := by omega
     have wi := i64_succ i (by omega)
     have mu := own_plain (pmul (isP_PZ (hb.mono (show 2 * i + 1 ≤ 2 * i + 2 by omega))) (ia.mono (show 1 ≤ 2 * i + 2 by omega)) (by omega) (by rw [PZ_length]; omega) (by omega))
     have hb2 : PL (2 * (i + 1) + 1) (tr (mulL b a)) := (pl_tr (pl_mulT hb ia.pl (by omega))).mono (by omega)
     have lb2 : (tr (mulL b a)).length ≤ 5 * (i + 1) + 1 := by
      have := tr_len (mulL b a)
      have := mulL_len a b
      omega
     have he2 : ∀ x, evL x (tr (mulL b a)) = evL x a ^ (i + 1) := fun x => by rw [evL_eqp x (cf_tr _), evL_mulL, he, Int.pow_succ]
     obtain ⟨B, hB⟩ : ∃ O, O = PZ b := ⟨_, rfl⟩
     obtain ⟨B2, hB2⟩ : ∃ O, O = PZ (tr (mulL b a)) := ⟨_, rfl⟩
     rw [← hB] at s7 mu
     rw [← hB2] at mu
     refine Ws ?_; simp [s0, s5, s6, s7, s8, hlt, hltI, wi]
     refine WS_cT (by simp [s0, s5, s6, s7, s8, hlt, hltI, wi]) ?_
     refine WS_skip ?_; simp [s0, s5, s6, s7, s8, hlt, hltI, wi]
     refine WS_seq (WS_block (WS_reg [] ?_)); simp [s0, s5, s6, s7, s8, hlt, hltI, wi]
     refine callK mu ?_; simp [s0, s5, s6, s7, s8, hlt, hltI, wi]
     refine WS_reg [] ?_; simp [s0, s5, s6, s7, s8, hlt, hltI, wi]
     refine ⟨⟨i + 1, tr (mulL b a), by omega, he2, hb2, lb2, by simp [s0], by simp [s5], by simp [s6], by simp [hB2], by simp⟩, ?_⟩
     show K - nM 8 _ < K - nM 8 S
     rw [d8, nM_eq (i := 8) (n := i + 1) (by simp)]
     omega
   · obtain rfl : i = K := by omega
     have hltI : ¬ (i : Int) < (i : Int) := by omega
     have ltb := tr_len b
     have ib := isP_PZ hb
     by_cases hw : wrE a = 0
     · obtain ⟨h0, hl⟩ := wrE_ok hw
       obtain ⟨qs, hd, hq⟩ := dc_ex2 ia.pl h0 (by omega)
       rw [hK] at he
       obtain ⟨hd2, b0⟩ := dc_pow hd h0 hb (by omega) he
       have hwb : wrE b = 0 := by
        rw [wrE, if_neg (fun e => b0 (List.length_eq_zero_iff.1 e)), if_neg (by omega)]
       have c1 := zParts ia (by omega) (by omega) hd (by omega) hw
       have c2 := zParts ib (by omega) (by rw [PZ_length]; omega) hd2 (by rw [spr_len]; have := Nat.mul_le_mul (show r + 1 ≤ 4 by omega) hq; omega) hwb
       have c3 := zradical ia (by omega) (by omega) (by omega) h0 hd
       have c4 := zradical ib (by omega) (by rw [PZ_length]; omega) (by omega) b0 hd2
       rw [tr_of_eqp (eqp_ev fun x => spr_B x r qs)] at c4
       have s1 := same12 (tr (BL qs)) ((pl_tr hd.B.1).mono (by omega)) (by have := hd.B.2.1; omega)
       have st := spr_told r qs 0
       simp only [Nat.mul_zero, Nat.zero_add] at st
       have tm : ∀ p ∈ told 1 qs, PL (2 ^ 40) p.1 ∧ p.1.length ≤ 2 ^ 40 ∧ p.2 ≤ 30 := fun p hp => by
        have h8 := told_lt hp
        obtain ⟨h1, q, h2, h3, h4⟩ := told_mem hp
        have := hd.part h2
        rw [h3]
        exact ⟨this.1.mono (by omega), by omega, by omega⟩
       rw [partV_told] at c1 c2
       rw [st] at c2
       obtain ⟨L, hL⟩ : ∃ L, L = told 1 qs := ⟨_, rfl⟩
       rw [← hL] at c1 c2 tm
       have lL : L.length ≤ 25 := by have := partV_len qs 1; rw [partV_told, ← hL, List.length_map] at this; omega
       obtain ⟨X, hX⟩ : ∃ X, X = L.map tV := ⟨_, rfl⟩
       obtain ⟨Y, hY⟩ : ∃ X, X = (L.map fun p => (p.1, (r + 1) * p.2)).map tV := ⟨_, rfl⟩
       rw [← hX] at c1
       rw [← hY] at c2
       have xL : X.length = L.length := by rw [hX, List.length_map]
       have yL : Y.length = L.length := by rw [hY, List.length_map, List.length_map]
       have gX : ∀ i (h : i < L.length) (h' : i < X.length), X[i] = .agg [.sl (some 2) (PZ L[i].1), .i .i64 (L[i].2 : Int)] := fun i h h' => by subst hX; simp [tV]
       have gY : ∀ i (h : i < L.length) (h' : i < Y.length), Y[i] = .agg [.sl (some 2) (PZ L[i].1), .i .i64 (((r + 1) * L[i].2 : Nat) : Int)] := fun i h h' => by subst hY; simp [tV]
       obtain ⟨R, hR⟩ : ∃ X, X = PZ (tr (BL qs)) := ⟨_, rfl⟩
       rw [← hR] at c3 c4 s1
       obtain ⟨B, hB⟩ : ∃ O, O = PZ b := ⟨_, rfl⟩
       rw [← hB] at s7 c2 c4
       clear hX hY hB
       have hxy : (X.length : Int) = (Y.length : Int) := by omega
       refine Ws ?_; simp [s0, s5, s6, s7, s8, hltI, xL, yL]
       refine WS_cF (by simp [s0, s5, s6, s7, s8, hltI, xL, yL]) ?_
       refine WS_exit ?_; simp [s0, s5, s6, s7, s8, hltI, xL, yL]
       refine Wr ?_; simp [s0, s5, s6, s7, s8, hltI, xL, yL]
       refine callK c1 ?_; simp [s0, s5, s6, s7, s8, hltI, xL, yL]
       refine Wr ?_; simp [s0, s5, s6, s7, s8, hltI, xL, yL]
       refine callK c2 ?_; simp [s0, s5, s6, s7, s8, hltI, xL, yL]
       refine Wr ?_; simp [s0, s5, s6, s7, s8, hltI, xL, yL]
       refine callK c3 ?_; simp [s0, s5, s6, s7, s8, hltI, xL, yL]
       refine Wr ?_; simp [s0, s5, s6, s7, s8, hltI, xL, yL]
       refine callK c4 ?_; simp [s0, s5, s6, s7, s8, hltI, xL, yL]
       refine Ws ?_; simp [s0, s5, s6, s7, s8, hltI, xL, yL]
       refine WS_cF (by simp [s0, s5, s6, s7, s8, hltI, xL, yL]) ?_
       refine WS_skip ?_; simp [s0, s5, s6, s7, s8, hltI, xL, yL]
       refine Ws ?_; simp [s0, s5, s6, s7, s8, hltI, xL, yL]
       refine WS_cF (by simp [s0, s5, s6, s7, s8, hltI, xL, yL]) ?_
       refine WS_skip ?_; simp [s0, s5, s6, s7, s8, hltI, xL, yL]
       refine Ws ?_; simp [s0, s5, s6, s7, s8, hltI, xL, yL]
       refine WS_block ?_
       refine WS_loop (PwJ X Y R L.length i) (fun S => L.length - nM 17 S) ⟨0, by omega, by simp [s5], by simp [s6], by simp, by simp, by simp, by simp, by simp, by simp, by simp⟩ ?_
       clear s0 s5 s6 s7 s8 c1 c2 c3 c4
       rintro S' ⟨u, hu, t5, t6, t9, t11, t13, t15, t14, t16, t17⟩
       have d17 := nM_eq t17
       by_cases hu2 : u < L.length
       · have huI : (u : Int) < (L.length : Int) := by omega
         have huX : u < X.length := by omega
         have huY : u < Y.length := by omega
         have huXI : (u : Int) < (X.length : Int) := by omega
         have huYI : (u : Int) < (Y.length : Int) := by omega
         have g1 := gX u hu2 huX
         have g2 := gY u hu2 huY
         have wu := i64_succ u (by omega)
         obtain ⟨q1, q2, q3⟩ := tm _ (List.getElem_mem hu2)
         obtain ⟨p, hp⟩ : ∃ p, p = L[u] := ⟨_, rfl⟩
         rw [← hp] at g1 g2 q1 q2 q3
         obtain ⟨q, m⟩ := p
         simp only at g1 g2 q1 q2 q3
         have sq := same12 q q1 q2
         have wm : IntKind.i64.wrap ((i : Int) * (m : Int)) = (((r + 1) * m : Nat) : Int) := by
          have hb9 : (r + 1) * m ≤ 4 * 30 := Nat.mul_le_mul (by omega) q3
          rw [hK, ← Int.natCast_mul]
          exact i64_nat _ (by omega)
         obtain ⟨mm, hmm⟩ : ∃ x, x = (((r + 1) * m : Nat) : Int) := ⟨_, rfl⟩
         rw [← hmm] at wm g2
         obtain ⟨W, hW⟩ : ∃ W, W = PZ q := ⟨_, rfl⟩
         rw [← hW] at g1 g2 sq
         refine Ws ?_; simp [t5, t6, t9, t11, t13, t15, t14, t16, t17, hu2, huI, huX, huY, huXI, huYI, g1, g2, wu, wm, xL, yL]
         refine WS_cT (by simp [t5, t6, t9, t11, t13, t15, t14, t16, t17, hu2, huI, huX, huY, huXI, huYI, g1, g2, wu, wm, xL, yL]) ?_
         refine WS_skip ?_; simp [t5, t6, t9, t11, t13, t15, t14, t16, t17, hu2, huI, huX, huY, huXI, huYI, g1, g2, wu, wm, xL, yL]
         refine WS_seq (WS_block (WS_seq (WS_regD [] ?_))); simp [t5, t6, t9, t11, t13, t15, t14, t16, t17, hu2, huI, huX, huY, huXI, huYI, g1, g2, wu, wm, xL, yL]
         refine callD sq rfl ?_; simp [t5, t6, t9, t11, t13, t15, t14, t16, t17, hu2, huI, huX, huY, huXI, huYI, g1, g2, wu, wm, xL, yL]
         refine ⟨rfl, ?_⟩
         refine WS_cF (by simp [t5, t6, t9, t11, t13, t15, t14, t16, t17, hu2, huI, huX, huY, huXI, huYI, g1, g2, wu, wm, xL, yL]) ?_
         refine WS_skip ?_; simp [t5, t6, t9, t11, t13, t15, t14, t16, t17, hu2, huI, huX, huY, huXI, huYI, g1, g2, wu, wm, xL, yL]
         refine WS_reg [] ?_; simp [t5, t6, t9, t11, t13, t15, t14, t16, t17, hu2, huI, huX, huY, huXI, huYI, g1, g2, wu, wm, xL, yL]
         refine ⟨⟨u + 1, by omega, by simp [t5], by simp [t6], by simp [t9], by simp [t11], by simp [t13], by simp [t15], by simp [t14], by simp [t16], by simp⟩, ?_⟩
         show L.length - nM 17 _ < L.length - nM 17 S'
         rw [d17, nM_eq (i := 17) (n := u + 1) (by simp)]
         omega
       · obtain rfl : u = L.length := by omega
         have huI : ¬ (L.length : Int) < (L.length : Int) := by omega
         refine Ws ?_; simp [t5, t6, t9, t11, t13, t15, t14, t16, t17, huI, xL, yL]
         refine WS_cF (by simp [t5, t6, t9, t11, t13, t15, t14, t16, t17, huI, xL, yL]) ?_
         refine WS_exit ?_; simp [t5, t6, t9, t11, t13, t15, t14, t16, t17, huI, xL, yL]
         refine Wr ?_; simp [t5, t6, t9, t11, t13, t15, t14, t16, t17, huI, xL, yL]
         refine callK s1 ?_; simp [t5, t6, t9, t11, t13, t15, t14, t16, t17, huI, xL, yL]
         refine WS_ret ?_; simp [t5, t6, t9, t11, t13, t15, t14, t16, t17, huI, xL, yL]
     · have e8 : wrE a = 8 ∧ tr a = [] := by
        rw [wrE] at hw ⊢
        split
        · rename_i h; exact ⟨rfl, List.length_eq_zero_iff.1 h⟩
        · rename_i h9
          rw [if_neg h9, if_neg (by omega)] at hw
          exact absurd rfl hw
       have hz : tr b = [] := by
        have : Eqp b [] := eqp_ev fun x => by rw [he, evL_eqp x (cf_tr a).symm, e8.2, hK, Int.pow_succ]; simp [evL]
        rw [tr_of_eqp this]; rfl
       have hwb : wrE b = 8 := by rw [wrE, hz]; rfl
       have c1 := zParts_wrong ia (by omega) (by omega) hw
       have c2 := zParts_wrong ib (by omega) (by rw [PZ_length]; omega) (by rw [hwb]; decide)
       have c3 := zradical_wrong ia (by omega) (by omega) hw
       have c4 := zradical_wrong ib (by omega) (by rw [PZ_length]; omega) (by rw [hwb]; decide)
       rw [e8.1] at c1 c3
       rw [hwb] at c2 c4
       obtain ⟨B, hB⟩ : ∃ O, O = PZ b := ⟨_, rfl⟩
       rw [← hB] at s7 c2 c4
       refine Ws ?_; simp [s0, s5, s6, s7, s8, hltI]
       refine WS_cF (by simp [s0, s5, s6, s7, s8, hltI]) ?_
       refine WS_exit ?_; simp [s0, s5, s6, s7, s8, hltI]
       refine Wr ?_; simp [s0, s5, s6, s7, s8, hltI]
       refine callK c1 ?_; simp [s0, s5, s6, s7, s8, hltI]
       refine Wr ?_; simp [s0, s5, s6, s7, s8, hltI]
       refine callK c2 ?_; simp [s0, s5, s6, s7, s8, hltI]
       refine Wr ?_; simp [s0, s5, s6, s7, s8, hltI]
       refine callK c3 ?_; simp [s0, s5, s6, s7, s8, hltI]
       refine Wr ?_; simp [s0, s5, s6, s7, s8, hltI]
       refine callK c4 ?_; simp [s0, s5, s6, s7, s8, hltI]
       refine Ws ?_; simp [s0, s5, s6, s7, s8, hltI]
       refine WS_cT (by simp [s0, s5, s6, s7, s8, hltI]) ?_
       refine Wr ?_; simp [s0, s5, s6, s7, s8, hltI]
       refine WS_ret ?_; simp [s0, s5, s6, s7, s8, hltI]
 · have hs' : smB 5 1 [M1] = false := by simpa using hs
   rw [hs'] at sm
   refine spec_at Tryz.func8 ok_law12_ZsqfPowers [] rfl (by simp) ?_
   unfold sc_law12_ZsqfPowers
   refine Wr ?_; simp
   refine Wr ?_; simp
   refine callK aw ?_; simp
   refine Ws ?_; simp
   refine callK sm ?_; simp
   refine WS_cT (by simp) ?_
   refine Wr ?_; simp
   refine WS_ret ?_; simp
end Go.Vw
