/- Fractions. -/
import Derived.Test.YtfdjbmamidmgfaaGreatME
import Derived.Test.YtfdjbmamidmgfaaGreatS3
import Derived.Test.YtfdjbmamidmgfaaGreatS4
import Derived.Lib.Bytealg
import Derived.Test.YtfdjbmamidmgfaaGreatMD
import Derived.Test.YtfdjbmamidmgfaaGreatS5
set_option linter.unusedVariables false
set_option linter.unusedSimpArgs false
namespace Go.Vw
open Go.Proofs
def rv (n : Bool) (l d : List Nat) : V := .agg [.b n, .sl none (uL l), .sl none (uL d)]
def qd (n : Nat) : List Nat := Nm.dig 18446744073709551616 n
def Q (q : Rat) : V := rv (zn q.num) (zl q.num) (qd q.den)
theorem Q_eq (q : Rat) : Q q = .agg [.b (zn q.num), .sl none (uL (zl q.num)), .sl none (uL (qd q.den))] := rfl
def rq (n : Bool) (l d : List Nat) : Rat := mkRat (zi n l) (Nm.val 18446744073709551616 d)
def IsQ (k : Nat) (v : V) (q : Rat) : Prop := ∃ n l d, v = rv n l d ∧ ZW k l ∧ ZW k d ∧ rq n l d = q
structure QL (k : Nat) (q : Rat) : Prop where
 num : zlen q.num ≤ k
 den : zlen (q.den : Int) ≤ k
theorem QL.mono {k m : Nat} {q : Rat} (h : QL k q) (hk : k ≤ m) : QL m q := ⟨Nat.le_trans h.num hk, Nat.le_trans h.den hk⟩
theorem IsQ.mono {k m : Nat} {v : V} {q : Rat} (h : IsQ k v q) (hk : k ≤ m) : IsQ m v q := by
 obtain ⟨n, l, d, h1, h2, h3, h4⟩ := h
 exact ⟨n, l, d, h1, h2.mono hk, h3.mono hk, h4⟩
theorem zlen_abs {x : Int} {y : Nat} (h : x.natAbs = y) : zlen (y : Int) = zlen x := by simp [zlen, zl, h]
theorem divInt_num {x y : Int} (hy : y ≠ 0) : (Rat.divInt x y).num = if y < 0 then -(x / (Int.gcd x y : Int)) else x / (Int.gcd x y : Int) := by
 rw [Rat.num_divInt, Int.gcd_comm y x]
 split
 · rw [Int.sign_eq_neg_one_of_neg (by omega), Int.neg_one_mul, Int.neg_ediv_of_dvd (Int.gcd_dvd_left _ _)]
 · rw [Int.sign_eq_one_of_pos (by omega), Int.one_mul]
theorem divInt_den {x y : Int} (hy : y ≠ 0) : (Rat.divInt x y).den = (y / (Int.gcd x y : Int)).natAbs := by
 rw [Rat.den_divInt, if_neg hy, Int.natAbs_ediv_of_dvd (Int.gcd_dvd_right _ _), Int.gcd_comm y x]
 rfl
theorem divInt_len {x y : Int} {k : Nat} (hx : zlen x ≤ k) (hy : zlen y ≤ k) : QL (k + 1) (Rat.divInt x y) := by
 by_cases h0 : y = 0
 · subst h0
   rw [Rat.divInt_zero]
   exact ⟨by rw [Rat.zero_num, zlen_zero]; omega, by have := zlen_one; rw [show ((0 : Rat).den : Int) = 1 by rfl]; omega⟩
 · refine ⟨?_, ?_⟩
   · rw [divInt_num h0]
     split
     · rw [zlen_neg]; have := zlen_ediv x (Int.gcd x y : Int); omega
     · have := zlen_ediv x (Int.gcd x y : Int); omega
   · rw [zlen_abs (divInt_den h0).symm]; have := zlen_ediv y (Int.gcd x y : Int); omega
theorem mkRat_len {x : Int} {d : Nat} {k : Nat} (hx : zlen x ≤ k) (hy : zlen (d : Int) ≤ k) : QL (k + 1) (mkRat x d) := by
 rw [← Rat.divInt_ofNat]; exact divInt_len hx hy
theorem IsQ.ql {k : Nat} {v : V} {q : Rat} (h : IsQ k v q) : QL (k + 1) q := by
 obtain ⟨n, l, d, rfl, h1, h2, rfl⟩ := h
 refine mkRat_len (isZ_zv (n := n) h1).zlen ?_
 have := (isZ_zv (n := false) h2).zlen
 rwa [show zi false d = (Nm.val 18446744073709551616 d : Int) by simp [zi]] at this
attribute [local simp] zv V.fits fillOk fillV Z_eq rv Q_eq
end Go.Vw
