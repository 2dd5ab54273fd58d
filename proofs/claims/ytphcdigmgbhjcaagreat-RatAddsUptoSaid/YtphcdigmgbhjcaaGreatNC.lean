/- Decimal texts, in plain numbers. -/
import Derived.Test.YtphcdigmgbhjcaaGreatNA
import Derived.Test.YtphcdigmgbhjcaaGreatMB
set_option linter.unusedVariables false
namespace Go.Nm
open Go.Vw

def txB (d : Nat) : UInt8 := UInt8.ofNat (48 + d)
def decL (n : Nat) : List UInt8 := (dig 10 n).reverse.map txB
def padL (k n : Nat) : List UInt8 := (pad 10 k n).reverse.map txB
def decT (n : Nat) : List UInt8 := if n = 0 then [48] else decL n

theorem txB_nat {d : Nat} (h : d < 10) : (txB d).toNat = 48 + d := by
  simp only [txB, UInt8.toNat_ofNat']
  omega

theorem dig_pad : ∀ (k n : Nat), n / 10 ^ k ≠ 0 → dig 10 n = pad 10 k n ++ dig 10 (n / 10 ^ k)
  | 0, n, _ => by simp [pad]
  | k + 1, n, h => by
    have hn : 0 < n := by
      rcases Nat.eq_zero_or_pos n with e | e
      · subst e; simp at h
      · exact e
    have e : n / 10 / 10 ^ k = n / 10 ^ (k + 1) := by rw [Nat.div_div_eq_div_mul, Nat.pow_succ, Nat.mul_comm]
    rw [dig_pos (by omega) hn, dig_pad k (n / 10) (by rw [e]; exact h), e]
    rfl

theorem dec_split {k n : Nat} (h : n / 10 ^ k ≠ 0) : decL n = decL (n / 10 ^ k) ++ padL k n := by
  rw [decL, dig_pad k n h, List.reverse_append, List.map_append]; rfl

theorem pad_mod (k : Nat) : ∀ n, pad 10 k (n % 10 ^ k) = pad 10 k n := by
  intro n
  have hl := pad_length 10 k n
  have hd := pad_lt (B := 10) (by omega) k n
  have := pad_unique (B := 10) (by omega) hd hl (c := 0) (N := n % 10 ^ k) (by rw [val_pad]; simp)
  exact this.1.symm

theorem padL_mod (k n : Nat) : padL k (n % 10 ^ k) = padL k n := by rw [padL, pad_mod]; rfl

theorem padL_succ (k n : Nat) : padL (k + 1) n = txB (n / 10 ^ k % 10) :: padL k n := by
  rw [padL, pad_snoc, List.reverse_append]; rfl

theorem padL_length (k n : Nat) : (padL k n).length = k := by simp [padL, pad_length]

/-- The digits so far are all, where nothing is left. -/
theorem padL_all {k n : Nat} (h0 : n / 10 ^ k = 0) (h1 : k = 0 ∨ n / 10 ^ (k - 1) ≠ 0) : padL k n = decL n := by
  rcases h1 with rfl | h1
  · simp at h0; subst h0; rfl
  · cases k with
    | zero => simp at h0 h1; exact absurd h0 h1
    | succ k =>
      have e : n / 10 ^ k / 10 = n / 10 ^ (k + 1) := by rw [Nat.div_div_eq_div_mul, Nat.pow_succ]
      rw [h0] at e
      rw [Nat.add_sub_cancel] at h1
      rw [dec_split h1, padL_succ, decL, dig_pos (by omega) (by omega), e, dig_zero]
      rfl

theorem decL_zero : decL 0 = [] := rfl

theorem decL_length {n L : Nat} (h : n < 18446744073709551616 ^ L) : (decL n).length ≤ 20 * L := by
  rw [decL, List.length_map, List.length_reverse]
  refine dig_length_le (by omega) (Nat.lt_of_lt_of_le h ?_)
  rw [Nat.pow_mul]
  exact Nat.pow_le_pow_left (by omega) L

theorem decT_length {n L : Nat} (h : n < 18446744073709551616 ^ L) : (decT n).length ≤ 20 * L + 1 := by
  unfold decT
  split
  · simp
  · have := decL_length h; omega

/-! ### read again -/

def be : List Nat → Nat → Nat
  | [], v => v
  | d :: r, v => be r (v * 10 + d)

theorem be_val : ∀ (ds : List Nat) (v : Nat), be ds v = v * 10 ^ ds.length + val 10 ds.reverse
  | [], v => by simp [be, val]
  | d :: r, v => by
    rw [be, be_val r, List.reverse_cons, val_append, List.length_reverse, List.length_cons, Nat.pow_succ, Nat.add_mul]
    simp only [val, Nat.mul_zero, Nat.add_zero]
    rw [Nat.mul_assoc, Nat.mul_comm 10 (10 ^ r.length), Nat.mul_comm d]
    omega

theorem parse_digits : ∀ (ds : List Nat) (v : Nat), Dl 10 ds → parseN (ds.map txB) v = some (be ds v)
  | [], v, _ => rfl
  | d :: r, v, h => by
    have hd := h.head
    rw [List.map_cons, parseN, txB_nat hd, if_neg (by omega), parse_digits r _ h.tail, be]
    congr 2; omega

theorem parse_inv : ∀ (l : List UInt8) (v w : Nat), parseN l v = some w → ∃ ds, Dl 10 ds ∧ l = ds.map txB ∧ w = be ds v
  | [], v, w, h => by
    simp only [parseN, Option.some.injEq] at h
    exact ⟨[], Dl.nil _, rfl, by rw [be, h]⟩
  | c :: r, v, w, h => by
    rw [parseN] at h
    split at h
    · cases h
    · rename_i hc
      obtain ⟨ds, h1, h2, h3⟩ := parse_inv r _ w h
      refine ⟨(c.toNat - 48) :: ds, Dl.cons (by omega) h1, ?_, by rw [be, h3]⟩
      rw [List.map_cons, ← h2]
      congr 1
      rw [txB, show 48 + (c.toNat - 48) = c.toNat by omega]
      exact (UInt8.ofNat_toNat).symm

theorem decT_ne (n : Nat) : decT n ≠ [] := by
  unfold decT
  split
  · simp
  · rename_i h
    have := dig_length_pos (B := 10) (by omega) h
    intro e
    have h2 : (decL n).length = 0 := by rw [e]; rfl
    rw [decL, List.length_map, List.length_reverse] at h2
    omega

theorem decL_head {n : Nat} (h : n ≠ 0) : ∃ d r, decL n = txB d :: r ∧ d ≠ 0 ∧ d < 10 := by
  have hp := dig_length_pos (B := 10) (by omega) h
  have hd := dig_lt (B := 10) (by omega) n
  have ht := trim_dig (B := 10) (by omega) n
  obtain ⟨l, hl⟩ : ∃ l, l = dig 10 n := ⟨_, rfl⟩
  rw [← hl] at hp hd ht
  obtain ⟨m, y, hm⟩ : ∃ m y, l = m ++ [y] := by
    refine ⟨l.take (l.length - 1), l[l.length - 1]'(by omega), ?_⟩
    conv => lhs; rw [← List.take_append_drop (l.length - 1) l]
    congr 1
    rw [List.drop_eq_getElem_cons (by omega), show l.length - 1 + 1 = l.length by omega, List.drop_of_length_le (Nat.le_refl _)]
  refine ⟨y, m.reverse.map txB, ?_, ?_, hd y (by rw [hm]; simp)⟩
  · rw [decL, ← hl, hm]; simp
  · intro h0
    rw [h0] at hm
    have h2 := trim_snoc_zero m
    rw [← hm, ht] at h2
    have h3 := trim_length_le m
    rw [← h2, hm] at h3
    simp at h3
    omega

theorem parse_decT {n : Nat} (hl : (decT n).length ≤ 4096) : parseV (decT n) = some n := by
  have hbad : ¬ badText (decT n) := by
    rintro (h | h | ⟨h, h'⟩)
    · exact decT_ne n (List.eq_nil_of_length_eq_zero h)
    · omega
    · unfold decT at h h'
      split at h
      · simp_all
      · rename_i h0
        rw [if_neg h0] at h'
        obtain ⟨d, r, e, h1, h2⟩ := decL_head h0
        rw [e] at h
        simp only [List.getD_cons_zero, txB_nat h2] at h
        omega
  rw [parseV, if_neg hbad]
  unfold decT
  split
  · rename_i h; subst h; rfl
  · have hd : Dl 10 (dig 10 n).reverse := fun x hx => dig_lt (B := 10) (by omega) n x (by simpa using hx)
    rw [decL, parse_digits _ _ hd, be_val, List.reverse_reverse, val_dig (by omega)]
    simp

theorem decT_parse {l : List UInt8} {v : Nat} (h : parseV l = some v) : decT v = l := by
  unfold parseV at h
  split at h
  · cases h
  · rename_i hbad
    obtain ⟨ds, h1, h2, h3⟩ := parse_inv l 0 v h
    rw [be_val, Nat.zero_mul, Nat.zero_add] at h3
    have h1' : Dl 10 ds.reverse := fun x hx => h1 x (by simpa using hx)
    have hd := dig_val (B := 10) (by omega) h1'
    rw [← h3] at hd
    have hlen : l.length = ds.length := by rw [h2]; simp
    cases hds : ds with
    | nil => exact absurd (.inl (by rw [hlen, hds]; rfl)) hbad
    | cons d r =>
      subst hds
      have hd0 := h1.head
      by_cases h0 : d = 0
      · subst h0
        have hr : r = [] := by
          by_cases hr : r = []
          · exact hr
          · exfalso
            refine hbad (.inr (.inr ⟨?_, ?_⟩))
            · rw [h2]; simp [txB]
            · rw [hlen]; cases r with
              | nil => exact absurd rfl hr
              | cons _ _ => simp
        subst hr
        simp [val] at h3
        rw [h3, h2]; rfl
      · have e : trim (d :: r).reverse = (d :: r).reverse := by
          rw [List.reverse_cons]; exact trim_snoc _ h0
        rw [e] at hd
        have hv : v ≠ 0 := by
          intro hv
          rw [hv, dig_zero] at hd
          simp at hd
        rw [decT, if_neg hv, decL, hd, List.reverse_reverse, h2]
end Go.Nm

