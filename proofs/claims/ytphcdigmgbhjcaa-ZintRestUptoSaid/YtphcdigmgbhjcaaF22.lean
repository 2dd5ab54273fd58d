/- nat.Parse. -/
import Derived.Test.YtphcdigmgbhjcaaF21
set_option linter.unusedVariables false
set_option linter.unusedSimpArgs false
namespace Go.Vw
open Go.Proofs

attribute [local simp] RunL_cons RunL_nil AOp_none AOp_some acK_v acK_call agK_tt agK_ff agK_tf agK_ft agK_tup agK_i aop aun St.ev St.heap St.put thenQ blockQ upd_apply S0 argSlot lowV V.cells V.isAgg V.fits V.part partOk plains St.ret retSV svOf svsOf retQ retP retAll retOne uL_length uL_get? uL_get St.elems retH ownIdx ownAt
attribute [local simp] RunD_none RunD_some RunD_nil RunE_any acD_v acD_call agD_tt agD_ff agD_tf agD_ft agD_tup entsOf svref SO.opds SO.writes SO.makes callEnt pureSV pureOf RV.isOwn
attribute [local simp] abin_add abin_sub abin_mul abin_quo abin_rem abin_eql abin_neq abin_lss abin_leq abin_gtr abin_geq
attribute [local simp] uL_snoc uL_set uL_take uL_drop uL_append uL_replicate uL_nil
attribute [local simp] acK_callG acD_callG St.giv gsSV gvSV retEnts ownEnts SO.still
attribute [local simp] S0G argSlotG givSV retQG retPG retAllG retOneG HObj.width V.scalar trimQ V.byte
def parseN : List UInt8 → Nat → Option Nat
  | [], v => some v
  | c :: r, v => if c.toNat < 48 ∨ 57 < c.toNat then none else parseN r (v * 10 + (c.toNat - 48))

def badText (l : List UInt8) : Prop := l.length = 0 ∨ 4096 < l.length ∨ ((l.getD 0 0).toNat = 48 ∧ 1 < l.length)

instance (l : List UInt8) : Decidable (badText l) := by unfold badText; exact inferInstance

def parseV (l : List UInt8) : Option Nat := if badText l then none else parseN l 0

def parseR : Option Nat → List RV
  | none => [.pure (U []), .pure (.i .i64 2)]
  | some v => [.pure (U (Nm.dig 18446744073709551616 v)), .pure (.i .i64 0)]

theorem parse_step {l : List UInt8} {i v : Nat} (hi : i < l.length) : parseN (l.drop i) v = if (l[i]).toNat < 48 ∨ 57 < (l[i]).toNat then none else parseN (l.drop (i + 1)) (v * 10 + ((l[i]).toNat - 48)) := by
  rw [List.drop_eq_getElem_cons hi, parseN]

theorem bytes_get (s : ByteArray) (i : Nat) (h : i < s.data.toList.length) : (bytesV s)[i]? = some (V.i .u8 ((s.data.toList[i]).toNat : Int)) := by
  have h' : i < s.data.size := by simpa using h
  simp [bytesV, h']
  exact ⟨s.data[i], by simp [h'], rfl⟩

theorem nparse_spec (s : ByteArray) (hs : s.size ≤ 2 ^ 40) : Spec Try.prog f_nat_Parse [.s s] (· = parseR (parseV s.data.toList)) := by
  refine spec_at Try.func50 ok_nat_Parse [] rfl (by simp) ?_
  unfold sc_nat_Parse
  obtain ⟨l, hl⟩ : ∃ l, l = s.data.toList := ⟨_, rfl⟩
  have hsz : s.size = l.length := by rw [hl]; rfl
  have hg : ∀ i, i < l.length → (bytesV s)[i]? = some (V.i .u8 ((l.getD i 0).toNat : Int)) := by
    subst hl
    intro i hi
    rw [bytes_get s i hi, List.getD, List.getElem?_eq_getElem hi]
    rfl
  have hbl : (bytesV s).length = l.length := by simp [bytesV, hl]
  rw [← hl]
  obtain ⟨n, hn⟩ : ∃ n, n = l.length := ⟨_, rfl⟩
  rw [← hn] at hsz hbl
  obtain ⟨c0, hc0⟩ : ∃ c, c = (l.getD 0 0).toNat := ⟨_, rfl⟩
  have hc0' : (s.data[0]?.getD 0).toNat = c0 := by rw [hc0, hl, List.getD, Array.getElem?_toList]
  have hc1 : ∀ h : 0 < s.data.size, (s.data[0]'h).toNat = c0 := fun h => by rw [← hc0', Array.getElem?_eq_getElem h]; rfl
  obtain ⟨bs, hbs⟩ : ∃ b, b = bytesV s := ⟨_, rfl⟩
  rw [← hbs] at hg hbl
  refine WS_seq (WS_reg [] ?_)
  simp
  refine WS_seq (WS_seq (WS_reg [] ?_))
  have hcase : (n = 0) ∨ (n ≠ 0 ∧ (4096 : Int) < n) ∨ (n ≠ 0 ∧ ¬ (4096 : Int) < n ∧ c0 = 48 ∧ (1 : Int) < n) ∨ (n ≠ 0 ∧ ¬ (4096 : Int) < n ∧ c0 = 48 ∧ ¬ (1 : Int) < n) ∨ (n ≠ 0 ∧ ¬ (4096 : Int) < n ∧ c0 ≠ 48) := by omega
  rcases hcase with h1 | ⟨h1, h2⟩ | ⟨h1, h2, h3, h4⟩ | ⟨h1, h2, h3, h4⟩ | ⟨h1, h2, h3⟩
  · have hb : badText l := .inl (by omega)
    simp [hsz, h1, parseV, hb, parseR]
    refine WS_cond (t := true) (by simp) (fun _ => ?_) (fun h => by cases h)
    refine WS_seq (WS_reg [] ?_)
    simp
    refine WS_ret ?_
    simp [U]
  · have hb : badText l := .inr (.inl (by omega))
    have h1' : ((n : Int) == 0) = false := by simp; exact h1
    simp [hsz, h1', h2, parseV, hb, parseR]
    refine WS_cond (t := true) (by simp) (fun _ => ?_) (fun h => by cases h)
    refine WS_seq (WS_reg [] ?_)
    simp
    refine WS_ret ?_
    simp [U]
  · have hb : badText l := .inr (.inr ⟨by omega, by omega⟩)
    have h1' : ((n : Int) == 0) = false := by simp; exact h1
    have h5 : 0 < n := by omega
    simp [hsz, h1', h2, hc0', hc1, h3, h4, h5, parseV, hb, parseR]
    refine WS_cond (t := true) (by simp) (fun _ => ?_) (fun h => by cases h)
    refine WS_seq (WS_reg [] ?_)
    simp
    refine WS_ret ?_
    simp [U]
  all_goals
    have hnb : ¬ badText l := by
      unfold badText
      rw [← hc0, ← hn]
      omega
    have h1' : ((n : Int) == 0) = false := by simp; exact h1
    have h5 : 0 < n := by omega
    have h3' : ((c0 : Int) == 48) = decide (c0 = 48) := by simp [h3]; try omega
    have hv : parseV l = parseN l 0 := by unfold parseV; rw [if_neg hnb]
    rw [hv]
    first | simp [hsz, h1', h2, hc0', hc1, h3, h4, h5] | simp [hsz, h1', h2, hc0', hc1, h3', h3, h5]
    refine WS_cond (t := false) (by simp) (fun h => by cases h) (fun _ => WS_skip ?_)
    simp
    refine WS_seq (WS_reg [] ?_)
    simp
    refine WS_seq (WS_seq (WS_reg [] ?_))
    simp [hsz, ← hbs, hbl]
    refine ⟨by omega, ?_⟩
    refine WS_block (WS_loop (fun S => ∃ i v : Nat, i ≤ n ∧ S.σ 4 = .p (.sl none (uL (Nm.dig 18446744073709551616 v))) ∧ S.σ 26 = .p (.sl none bs) ∧ S.σ 27 = .p (.i .i64 (n : Int)) ∧ S.σ 28 = .p (.i .i64 (i : Int)) ∧ parseN l 0 = parseN (l.drop i) v ∧ v < 18446744073709551616 ^ i)
      (fun S => match S.σ 28 with | .p (.i _ k) => n - k.toNat | _ => 0) ⟨0, 0, by omega, by simp [Nm.dig_zero], by simp, by simp, by simp, by simp, by simp⟩ ?_)
    rintro S ⟨i, v, hi, s4, s26, s27, s28, hp, hvlt⟩
    refine WS_seq (WS_reg [] ?_)
    simp [s27, s28]
    by_cases hlt : i < n
    · have hil : i < l.length := by omega
      have hst := parse_step (v := v) hil
      have hgi := hg i hil
      have hgl : l.getD i 0 = l[i] := by simp [List.getD, hil]
      rw [hgl] at hgi
      obtain ⟨c, hc⟩ : ∃ c, c = (l[i]).toNat := ⟨_, rfl⟩
      rw [← hc] at hst hgi
      have hc256 : c < 256 := by rw [hc]; exact UInt8.toNat_lt _
      have hbi : i < bs.length := by omega
      have hgd : bs[i] = V.i .u8 (c : Int) := by
        rw [List.getElem?_eq_getElem hbi] at hgi
        exact Option.some.inj hgi
      refine WS_seq (WS_cond (t := true) (by simp; omega) (fun _ => ?_) (fun h => by cases h))
      refine WS_skip ?_
      simp
      refine WS_seq (WS_block (WS_seq (WS_reg [] ?_)))
      simp [s26, s28, hbi, hgd]
      refine WS_seq (WS_seq (WS_reg [] ?_))
      have hcc : ((c : Int) < 48) ∨ (¬ (c : Int) < 48 ∧ (57 : Int) < c) ∨ (¬ (c : Int) < 48 ∧ ¬ (57 : Int) < c) := by omega
      rcases hcc with k1 | ⟨k1, k2⟩ | ⟨k1, k2⟩
      · rw [if_pos (.inl (by omega))] at hst
        simp [k1]
        refine WS_cond (t := true) (by simp) (fun _ => ?_) (fun h => by cases h)
        refine WS_seq (WS_reg [] ?_)
        simp
        refine WS_ret ?_
        simp [hp, hst, parseR, U]
      · rw [if_pos (.inr (by omega))] at hst
        simp [k1, k2]
        refine WS_cond (t := true) (by simp) (fun _ => ?_) (fun h => by cases h)
        refine WS_seq (WS_reg [] ?_)
        simp
        refine WS_ret ?_
        simp [hp, hst, parseR, U]
      · rw [if_neg (by omega)] at hst
        have q1 : IntKind.u8.wrap ((c : Int) - 48) = ((c - 48 : Nat) : Int) := by rw [Go.IntWalk.u8_in _ (by omega)]; omega
        have q2 := u64_fit (c - 48) (by omega)
        have q3 := i64_succ i (by omega)
        have hdl := Nm.dig_length_le (B := 18446744073709551616) (by omega) hvlt
        have hi4 : i ≤ 4096 := by omega
        have hrow := row_spec (Nm.dig 18446744073709551616 v) (Nm.dig_lt (by omega) v) 10 (by omega) (by omega)
        rw [Nm.val_dig (by omega)] at hrow
        have hvd : v < 18446744073709551616 ^ (Nm.dig 18446744073709551616 v).length := by
          have := Nm.val_lt (Nm.dig_lt (B := 18446744073709551616) (by omega) v)
          rw [Nm.val_dig (by omega)] at this
          exact this
        have hpl := Nm.pad_length 18446744073709551616 ((Nm.dig 18446744073709551616 v).length + 1) (v * 10)
        have hpd := Nm.pad_lt (B := 18446744073709551616) (by omega) ((Nm.dig 18446744073709551616 v).length + 1) (v * 10)
        have hpv := Nm.val_pad 18446744073709551616 ((Nm.dig 18446744073709551616 v).length + 1) (v * 10)
        rw [Nat.mod_eq_of_lt (by rw [Nat.pow_succ]; omega)] at hpv
        obtain ⟨d, hd⟩ : ∃ d, d = c - 48 := ⟨_, rfl⟩
        rw [← hd] at q1 q2 hst
        have hadd := add_spec (Nm.pad 18446744073709551616 ((Nm.dig 18446744073709551616 v).length + 1) (v * 10)) [d] hpd (Nm.Dl.cons (by omega) (Nm.Dl.nil _)) (by omega) (by simp)
        rw [hpv] at hadd
        have hvd2 : Nm.val 18446744073709551616 [d] = d := by simp [Nm.val]
        rw [hvd2] at hadd
        obtain ⟨v', hv'⟩ : ∃ z, z = v * 10 + d := ⟨_, rfl⟩
        rw [← hv'] at hadd hst
        have hv2 : v' < 18446744073709551616 ^ (i + 1) := by rw [Nat.pow_succ]; omega
        obtain ⟨L, hL⟩ : ∃ z, z = Nm.pad 18446744073709551616 ((Nm.dig 18446744073709551616 v).length + 1) (v * 10) := ⟨_, rfl⟩
        rw [← hL] at hrow hadd
        have hrow' : Spec Try.prog f_nat_row [U (Nm.dig 18446744073709551616 v), .i .u64 10] (· = [.pure (U L)]) := hrow
        simp [k1, k2]
        refine WS_cond (t := false) (by simp) (fun h => by cases h) (fun _ => WS_skip ?_)
        simp
        refine WS_reg [] ?_
        simp [s4]
        refine callK hrow' ?_
        simp [q1, q2, U]
        refine callK hadd ?_
        simp
        refine WS_reg [] ?_
        simp [s26, s27, s28, q3, U]
        exact ⟨⟨i + 1, by omega, v', rfl, rfl, by rw [hp, hst], hv2⟩, by omega⟩
    · have hin : i = n := by omega
      refine WS_seq (WS_cond (t := false) (by simp; omega) (fun h => by cases h) (fun _ => ?_))
      refine WS_exit ?_
      simp
      have hend : parseN l 0 = some v := by rw [hp, hin, hn, List.drop_length]; rfl
      refine WS_seq (WS_reg [] ?_)
      simp [s4]
      refine WS_ret ?_
      simp [hend, parseR, U]
end Go.Vw
