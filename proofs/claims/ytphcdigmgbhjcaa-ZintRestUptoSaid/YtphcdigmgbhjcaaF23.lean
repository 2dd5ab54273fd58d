/- cleaverref01.Parse. -/
import Derived.Test.YtphcdigmgbhjcaaF22
set_option linter.unusedVariables false
set_option linter.unusedSimpArgs false
namespace Go.Vw
open Go.Proofs

attribute [local simp] RunL_cons RunL_nil AOp_none AOp_some acK_v acK_call agK_tt agK_ff agK_tf agK_ft agK_tup agK_i aop aun St.ev St.heap St.put thenQ blockQ upd_apply S0 argSlot lowV V.cells V.isAgg V.fits V.part partOk plains St.ret retSV svOf svsOf retQ retP retAll retOne uL_length uL_get? uL_get St.elems retH ownIdx ownAt
attribute [local simp] RunD_none RunD_some RunD_nil RunE_any acD_v acD_call agD_tt agD_ff agD_tf agD_ft agD_tup entsOf svref SO.opds SO.writes SO.makes callEnt pureSV pureOf RV.isOwn
attribute [local simp] abin_add abin_sub abin_mul abin_quo abin_rem abin_eql abin_neq abin_lss abin_leq abin_gtr abin_geq
attribute [local simp] uL_snoc uL_set uL_take uL_drop uL_append uL_replicate uL_nil
attribute [local simp] acK_callG acD_callG St.giv gsSV gvSV retEnts ownEnts SO.still
attribute [local simp] S0G argSlotG givSV retQG retPG retAllG retOneG HObj.width V.scalar trimQ V.byte
theorem ten_step {out x : List Nat} {k c d xk : Nat} (hk : k < out.length) (ho : out.getD k 0 = xk) (hx : x.getD k 0 = xk)
    (h : Nm.val 4294967296 out + 4294967296 ^ k * c = 10 * Nm.val 4294967296 (x.take k) + d + 4294967296 ^ k * Nm.val 4294967296 (x.drop k)) :
    Nm.val 4294967296 (out.set k ((xk * 10 + c) % 4294967296)) + 4294967296 ^ (k + 1) * ((xk * 10 + c) / 4294967296) = 10 * Nm.val 4294967296 (x.take (k + 1)) + d + 4294967296 ^ (k + 1) * Nm.val 4294967296 (x.drop (k + 1)) := by
  have h1 := Nm.val_set 4294967296 out k ((xk * 10 + c) % 4294967296) hk
  rw [ho] at h1
  have h2 : 4294967296 ^ k * ((xk * 10 + c) % 4294967296) + 4294967296 ^ (k + 1) * ((xk * 10 + c) / 4294967296) = 10 * (4294967296 ^ k * xk) + 4294967296 ^ k * c := by
    rw [Nat.pow_succ, Nat.mul_assoc, ← Nat.mul_add, Nat.mod_add_div, Nat.mul_add, ← Nat.mul_assoc, Nat.mul_comm _ 10]
  have h3 := Nm.val_take_succ 4294967296 x k
  have h4 := Nm.val_drop 4294967296 x k
  rw [hx] at h3 h4
  have h5 : 4294967296 ^ k * Nm.val 4294967296 (x.drop k) = 4294967296 ^ k * xk + 4294967296 ^ (k + 1) * Nm.val 4294967296 (x.drop (k + 1)) := by
    rw [h4, Nat.mul_add, Nat.pow_succ, Nat.mul_assoc]
  rw [h3]
  omega

theorem rparse_spec (s : ByteArray) (hs : s.size ≤ 2 ^ 40) : Spec Try.prog f_ref01_Parse [.s s] (· = parseR (parseV s.data.toList)) := by
  refine spec_at Try.func51 ok_ref01_Parse [] rfl (by simp) ?_
  unfold sc_ref01_Parse
  obtain ⟨l, hl⟩ : ∃ l, l = s.data.toList := ⟨_, rfl⟩
  have hsz : s.size = l.length := by rw [hl]; rfl
  have hg : ∀ i, i < l.length → (bytesV s)[i]? = some (V.i .u8 ((l.getD i 0).toNat : Int)) := by
    subst hl
    intro i hi
    rw [bytes_get s i hi, List.getD, List.getElem?_eq_getElem hi]
    rfl
  have hbl : (bytesV s).length = l.length := by simp [bytesV, hl]
  rw [← hl]
  obtain ⟨n, hn⟩ : ∃ n, n = l.length := ⟨_, rfl⟩
  rw [← hn] at hsz hbl
  obtain ⟨c0, hc0⟩ : ∃ c, c = (l.getD 0 0).toNat := ⟨_, rfl⟩
  have hc0' : (s.data[0]?.getD 0).toNat = c0 := by rw [hc0, hl, List.getD, Array.getElem?_toList]
  have hc1 : ∀ h : 0 < s.data.size, (s.data[0]'h).toNat = c0 := fun h => by rw [← hc0', Array.getElem?_eq_getElem h]; rfl
  have hcj : ∀ (j : Nat) (h : j < s.data.size), (s.data[j]'h).toNat = (l.getD j 0).toNat := fun j h => by rw [hl, List.getD, Array.getElem?_toList, Array.getElem?_eq_getElem h]; rfl
  have hds : s.data.size = n := hsz
  refine WS_seq (WS_reg [] ?_)
  simp
  refine WS_seq (WS_seq (WS_reg [] ?_))
  have hcase : (n = 0) ∨ (n ≠ 0 ∧ (4096 : Int) < n) ∨ (n ≠ 0 ∧ ¬ (4096 : Int) < n ∧ c0 = 48 ∧ (1 : Int) < n) ∨ (n ≠ 0 ∧ ¬ (4096 : Int) < n ∧ c0 = 48 ∧ ¬ (1 : Int) < n) ∨ (n ≠ 0 ∧ ¬ (4096 : Int) < n ∧ c0 ≠ 48) := by omega
  rcases hcase with h1 | ⟨h1, h2⟩ | ⟨h1, h2, h3, h4⟩ | ⟨h1, h2, h3, h4⟩ | ⟨h1, h2, h3⟩
  · have hb : badText l := .inl (by omega)
    simp [hsz, h1, parseV, hb, parseR]
    refine WS_cond (t := true) (by simp) (fun _ => ?_) (fun h => by cases h)
    refine WS_seq (WS_reg [] ?_)
    simp
    refine WS_ret ?_
    simp [U]
  · have hb : badText l := .inr (.inl (by omega))
    have h1' : ((n : Int) == 0) = false := by simp; exact h1
    simp [hsz, h1', h2, parseV, hb, parseR]
    refine WS_cond (t := true) (by simp) (fun _ => ?_) (fun h => by cases h)
    refine WS_seq (WS_reg [] ?_)
    simp
    refine WS_ret ?_
    simp [U]
  · have hb : badText l := .inr (.inr ⟨by omega, by omega⟩)
    have h1' : ((n : Int) == 0) = false := by simp; exact h1
    have h5 : 0 < n := by omega
    simp [hsz, h1', h2, hc0', hc1, h3, h4, h5, parseV, hb, parseR]
    refine WS_cond (t := true) (by simp) (fun _ => ?_) (fun h => by cases h)
    refine WS_seq (WS_reg [] ?_)
    simp
    refine WS_ret ?_
    simp [U]
  all_goals
    have hnb : ¬ badText l := by
      unfold badText
      rw [← hc0, ← hn]
      omega
    have h1' : ((n : Int) == 0) = false := by simp; exact h1
    have h5 : 0 < n := by omega
    have h3' : ((c0 : Int) == 48) = decide (c0 = 48) := by simp [h3]; try omega
    have hv : parseV l = parseN l 0 := by unfold parseV; rw [if_neg hnb]
    rw [hv]
    first | simp [hsz, h1', h2, hc0', hc1, h3, h4, h5] | simp [hsz, h1', h2, hc0', hc1, h3', h3, h5]
    refine WS_cond (t := false) (by simp) (fun h => by cases h) (fun _ => WS_skip ?_)
    simp
    refine WS_seq (WS_reg [4] ?_)
    simp
    refine WS_seq (WS_seq (WS_reg [] ?_))
    simp
    refine WS_block (WS_loop (fun S => ∃ (i v g : Nat) (x : List Nat), i ≤ n ∧ S.σ 0 = .p (.s s) ∧ S.σ 5 = .p (.i .i64 (i : Int)) ∧ S.σ 4 = .own 4 g 0 x.length ∧ S.h 4 = ⟨g, some (.arr 30 none (uL x))⟩ ∧ Nm.Dl 4294967296 x ∧ x.length ≤ i ∧ Nm.val 4294967296 x = v ∧ parseN l 0 = parseN (l.drop i) v)
      (fun S => match S.σ 5 with | .p (.i _ k) => n - k.toNat | _ => 0) ⟨0, 0, 1, [], by omega, by simp, by simp, by simp, by simp, Nm.Dl.nil _, by simp, by simp [Nm.val], by simp⟩ ?_)
    rintro S ⟨i, v, g, x, hi, s0, s5, s4, hh, hxd, hxl, hxv, hp⟩
    refine WS_seq (WS_seq (WS_reg [] ?_))
    simp [s0, s5, hsz]
    by_cases hlt : i < n
    · have hil : i < l.length := by omega
      have hst := parse_step (v := v) hil
      have hgl : l.getD i 0 = l[i] := by simp [List.getD, hil]
      have hci := hcj i
      rw [hgl] at hci
      obtain ⟨c, hc⟩ : ∃ c, c = (l[i]).toNat := ⟨_, rfl⟩
      rw [← hc] at hst hci
      have hc256 : c < 256 := by rw [hc]; exact UInt8.toNat_lt _
      have q3 := i64_succ i (by omega)
      have hlt' : (i : Int) < n := by omega
      refine WS_cond (t := true) (by simp; omega) (fun _ => ?_) (fun h => by cases h)
      refine WS_skip ?_
      simp
      refine WS_seq (WS_block (WS_seq (WS_seq (WS_reg [] ?_))))
      have hcc : ((c : Int) < 48) ∨ (¬ (c : Int) < 48 ∧ (57 : Int) < c) ∨ (¬ (c : Int) < 48 ∧ ¬ (57 : Int) < c) := by omega
      rcases hcc with k1 | ⟨k1, k2⟩ | ⟨k1, k2⟩
      · rw [if_pos (.inl (by omega))] at hst
        simp [s0, s5, hsz, hds, hlt, hlt', hci, k1]
        refine WS_cond (t := true) (by simp) (fun _ => ?_) (fun h => by cases h)
        refine WS_seq (WS_reg [] ?_)
        simp
        refine WS_ret ?_
        simp [hp, hst, parseR, U]
      · rw [if_pos (.inr (by omega))] at hst
        simp [s0, s5, hsz, hds, hlt, hlt', hci, k1, k2]
        refine WS_cond (t := true) (by simp) (fun _ => ?_) (fun h => by cases h)
        refine WS_seq (WS_reg [] ?_)
        simp
        refine WS_ret ?_
        simp [hp, hst, parseR, U]
      · rw [if_neg (by omega)] at hst
        have q1 : IntKind.u8.wrap ((c : Int) - 48) = ((c - 48 : Nat) : Int) := by rw [Go.IntWalk.u8_in _ (by omega)]; omega
        have q2 := u64_fit (c - 48) (by omega)
        obtain ⟨d, hd⟩ : ∃ d, d = c - 48 := ⟨_, rfl⟩
        have hd9 : d ≤ 9 := by omega
        rw [← hd] at q1 q2 hst
        simp [s0, s5, hsz, hds, hlt, hlt', hci, k1, k2]
        refine WS_cond (t := false) (by simp) (fun h => by cases h) (fun _ => WS_skip ?_)
        simp
        refine WS_seq (WS_reg [] ?_)
        simp [s0, s5, hsz, hds, hlt, hlt', hci, q1, q2]
        refine WS_seq (WS_seq (WS_reg [] ?_))
        simp
        refine WS_block (WS_loop (fun S => ∃ (k cy : Nat) (out : List Nat), k ≤ x.length ∧ S.σ 0 = .p (.s s) ∧ S.σ 5 = .p (.i .i64 (i : Int)) ∧ S.σ 4 = .own 4 g 0 x.length ∧ S.h 4 = ⟨g, some (.arr 30 none (uL out))⟩ ∧ S.σ 6 = .p (.i .u64 (cy : Int)) ∧ S.σ 7 = .p (.i .i64 (k : Int)) ∧
          out.length = x.length ∧ Nm.Dl 4294967296 out ∧ cy ≤ 9 ∧ (∀ j, k ≤ j → out.getD j 0 = x.getD j 0) ∧ Nm.val 4294967296 out + 4294967296 ^ k * cy = 10 * Nm.val 4294967296 (x.take k) + d + 4294967296 ^ k * Nm.val 4294967296 (x.drop k))
          (fun S => match S.σ 7 with | .p (.i _ k) => x.length - k.toNat | _ => 0) ⟨0, d, x, by omega, by simp [s0], by simp [s5], by simp [s4], by simp [hh], by simp, by simp, rfl, hxd, hd9, fun j _ => rfl, by simp [Nm.val]; omega⟩ ?_)
        rintro S ⟨k, cy, out, hk, t0, t5, t4, th, t6, t7, ho1, ho2, hcy, ho3, ho4⟩
        refine WS_seq (WS_seq (WS_reg [] ?_))
        simp [t4, t7, th]
        by_cases hk2 : k < x.length
        · have hol : k < out.length := by omega
          have hxk := ho2 _ (List.getElem_mem hol)
          have hog : out.getD k 0 = out[k] := by simp [List.getD, hol]
          have hox := ho3 k (Nat.le_refl _)
          rw [hog] at hox
          have hstep := ten_step hol hog hox.symm ho4
          obtain ⟨xk, hxkd⟩ : ∃ z, z = out[k] := ⟨_, rfl⟩
          rw [← hxkd] at hxk hstep
          have n1 : IntKind.u64.wrap ((xk : Int) * 10) = ((xk * 10 : Nat) : Int) := u64_mulf xk 10 (by omega)
          have n2 := u64_addf (xk * 10) cy (by omega)
          have n3 := abin_mask32 (xk * 10 + cy) (by omega)
          have n4 := abin_shr (k := .u64) (xk * 10 + cy) 32 32 rfl (by omega)
          have n4' : (xk * 10 + cy) / 2 ^ 32 = (xk * 10 + cy) / 4294967296 := rfl
          rw [n4'] at n4
          have n5 := i64_succ k (by omega)
          have b1 : (xk * 10 + cy) % 4294967296 < 4294967296 := Nat.mod_lt _ (by omega)
          have b2 : (xk * 10 + cy) / 4294967296 ≤ 9 := by omega
          obtain ⟨p, hpd⟩ : ∃ z, z = xk * 10 := ⟨_, rfl⟩
          rw [← hpd] at n1 n2 n3 n4 b1 b2 hstep
          obtain ⟨t, htd⟩ : ∃ z, z = p + cy := ⟨_, rfl⟩
          rw [← htd] at n2 n3 n4 b1 b2 hstep
          obtain ⟨tl, htl⟩ : ∃ z, z = t % 4294967296 := ⟨_, rfl⟩
          obtain ⟨tg, htg⟩ : ∃ z, z = t / 4294967296 := ⟨_, rfl⟩
          rw [← htl] at n3 b1 hstep
          rw [← htg] at n4 b2 hstep
          refine WS_cond (t := true) (by simp; omega) (fun _ => ?_) (fun h => by cases h)
          refine WS_skip ?_
          simp
          refine WS_seq (WS_block (WS_seq (WS_reg [] ?_)))
          simp [t4, t6, t7, th, hk2, hol, ← hxkd, n1, n2]
          refine WS_seq (WS_reg [] ?_)
          simp [t4, t7, th, hk2, hol, n3]
          refine WS_reg [] ?_
          simp [n4]
          refine WS_reg [] ?_
          simp [t0, t4, t5, t7, n5]
          refine ⟨⟨k + 1, by omega, tg, out.set k tl, rfl, rfl, rfl, by simp [ho1], ho2.set b1 _, b2, fun j hj => ?_, hstep⟩, by omega⟩
          have := Nm.getD_set_ne (l := out) (show k ≠ j by omega) tl
          rw [ho3 j (by omega)] at this
          simpa [List.getD] using this
        · have hke : k = x.length := by omega
          refine WS_cond (t := false) (by simp; omega) (fun h => by cases h) (fun _ => WS_exit ?_)
          simp
          rw [hke, Nm.take_all (Nat.le_refl _), List.drop_length, hxv] at ho4
          simp only [Nm.val, Nat.mul_zero, Nat.add_zero] at ho4
          refine WS_seq (WS_reg [] ?_)
          simp [t6]
          by_cases hcy0 : 0 < cy
          · refine WS_cond (t := true) (by simp; omega) (fun _ => ?_) (fun h => by cases h)
            refine WS_reg [] ?_
            simp [t4, t6, th, ho1, take_all' ho1]
            refine ⟨by omega, ?_⟩
            refine WS_reg [] ?_
            simp [t0, t5, q3]
            refine ⟨⟨i + 1, by omega, rfl, ?_⟩, by omega⟩
            exact ⟨v * 10 + d, g + 1, out ++ [cy], ⟨rfl, by simp [ho1]⟩, ⟨rfl, rfl⟩, ho2.append (Nm.Dl.cons (by omega) (Nm.Dl.nil _)), by simp; omega, by
              rw [Nm.val_append, ho1]; simp only [Nm.val, Nat.mul_zero, Nat.add_zero]; rw [ho4]; omega, by rw [hp, hst]⟩
          · have hcz : cy = 0 := by omega
            rw [hcz, Nat.mul_zero, Nat.add_zero] at ho4
            refine WS_cond (t := false) (by simp; omega) (fun h => by cases h) (fun _ => WS_skip ?_)
            simp
            refine WS_reg [] ?_
            simp [t0, t4, t5, th, q3]
            refine ⟨⟨i + 1, by omega, rfl, ?_⟩, by omega⟩
            exact ⟨v * 10 + d, g, out, ⟨rfl, ho1.symm⟩, ⟨rfl, rfl⟩, ho2, by omega, by rw [ho4]; omega, by rw [hp, hst]⟩
    · have hin : i = n := by omega
      refine WS_cond (t := false) (by simp; omega) (fun h => by cases h) (fun _ => WS_exit ?_)
      simp
      have hend : parseN l 0 = some v := by rw [hp, hin, hn, List.drop_length]; rfl
      have hn4 : n ≤ 4096 := by omega
      refine WS_frz 4 4 none ?_
      simp [frzQ, s4, hh, take_all' (rfl : x.length = x.length)]
      refine WS_seq (WS_reg [] ?_)
      simp
      refine callK (rlimbs_spec x hxd (by omega)) ?_
      rw [hxv]
      simp
      refine WS_ret ?_
      simp [hend, parseR, U]
end Go.Vw
