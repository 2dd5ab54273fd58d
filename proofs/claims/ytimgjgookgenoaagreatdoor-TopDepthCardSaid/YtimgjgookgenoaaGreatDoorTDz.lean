/- TopDepth: the contract, at whatever number. -/
import Derived.Test.YtimgjgookgenoaaGreatDoorTDk0
import Derived.Test.YtimgjgookgenoaaGreatDoorTDk1
import Derived.Test.YtimgjgookgenoaaGreatDoorTDk2
import Derived.Test.YtimgjgookgenoaaGreatDoorTDk3
import Derived.Test.YtimgjgookgenoaaGreatDoorTDk4
import Derived.Test.YtimgjgookgenoaaGreatDoorTDk5
import Derived.Test.YtimgjgookgenoaaGreatDoorTDk6
import Derived.Test.YtimgjgookgenoaaGreatDoorTDk7
set_option linter.unusedVariables false
set_option linter.unusedSimpArgs false
set_option linter.unusedSectionVars false
namespace Go.Proofs.YtimgjgookgenoaaGreatDoor
open Go Go.Zw
open Go.Vw (SRes SX SO V abin)
set_option maxRecDepth 1000000
theorem rAll : ∀ k, k < 64 → topR k = .ok [.b true] [] []
  | 0, _ => r0
  | 1, _ => r1
  | 2, _ => r2
  | 3, _ => r3
  | 4, _ => r4
  | 5, _ => r5
  | 6, _ => r6
  | 7, _ => r7
  | 8, _ => r8
  | 9, _ => r9
  | 10, _ => r10
  | 11, _ => r11
  | 12, _ => r12
  | 13, _ => r13
  | 14, _ => r14
  | 15, _ => r15
  | 16, _ => r16
  | 17, _ => r17
  | 18, _ => r18
  | 19, _ => r19
  | 20, _ => r20
  | 21, _ => r21
  | 22, _ => r22
  | 23, _ => r23
  | 24, _ => r24
  | 25, _ => r25
  | 26, _ => r26
  | 27, _ => r27
  | 28, _ => r28
  | 29, _ => r29
  | 30, _ => r30
  | 31, _ => r31
  | 32, _ => r32
  | 33, _ => r33
  | 34, _ => r34
  | 35, _ => r35
  | 36, _ => r36
  | 37, _ => r37
  | 38, _ => r38
  | 39, _ => r39
  | 40, _ => r40
  | 41, _ => r41
  | 42, _ => r42
  | 43, _ => r43
  | 44, _ => r44
  | 45, _ => r45
  | 46, _ => r46
  | 47, _ => r47
  | 48, _ => r48
  | 49, _ => r49
  | 50, _ => r50
  | 51, _ => r51
  | 52, _ => r52
  | 53, _ => r53
  | 54, _ => r54
  | 55, _ => r55
  | 56, _ => r56
  | 57, _ => r57
  | 58, _ => r58
  | 59, _ => r59
  | 60, _ => r60
  | 61, _ => r61
  | 62, _ => r62
  | 63, _ => r63
  | k + 64, h => absurd h (by omega)
theorem t3 : tab9 3 = some (75, .seq (.reg [⟨some 2, .o (.mv (.c (.b false))), none⟩]) (.seq (.reg [⟨some 14, .o (.call (.f 6) []), none⟩, ⟨some 3, .o (.mv (.t 14)), none⟩]) (.seq (.reg [⟨some 15, .o (.mv (.t 0)), none⟩, ⟨some 16, .o (.bin .and (.t 15) (.c (.i .i64 63))), none⟩, ⟨some 4, .o (.mv (.t 16)), none⟩]) rest3)), [.tmp 2]) := by kernel_rfl
theorem and63 (n : Int) : ∃ k : Nat, k < 64 ∧ IntKind.i64.wrap (BitVec.ofInt 64 n &&& BitVec.ofInt 64 63).toNat = (k : Int) := by
  refine ⟨(BitVec.ofInt 64 n &&& BitVec.ofInt 64 63).toNat, ?_, ?_⟩
  · rw [BitVec.toNat_and]
    exact Nat.lt_of_le_of_lt Nat.and_le_right (by decide)
  · have h : (BitVec.ofInt 64 n &&& BitVec.ofInt 64 63).toNat < 64 := by
      rw [BitVec.toNat_and]
      exact Nat.lt_of_le_of_lt Nat.and_le_right (by decide)
    obtain ⟨k, hk⟩ : ∃ k, k = (BitVec.ofInt 64 n &&& BitVec.ofInt 64 63).toNat := ⟨_, rfl⟩
    rw [← hk] at h ⊢
    exact Go.Vw.i64_int _ (by omega) (by omega)
theorem top_wx (n : Int) : WX Tryz.prog none 75 (.seq (.reg [⟨some 2, .o (.mv (.c (.b false))), none⟩]) (.seq (.reg [⟨some 14, .o (.call (.f 6) []), none⟩, ⟨some 3, .o (.mv (.t 14)), none⟩]) (.seq (.reg [⟨some 15, .o (.mv (.t 0)), none⟩, ⟨some 16, .o (.bin .and (.t 15) (.c (.i .i64 63))), none⟩, ⟨some 4, .o (.mv (.t 16)), none⟩]) rest3)))
    (retD Tryz.prog [.tmp 2] fun _ _ zs => zs = [.b true]) .clean (S0Z (fun _ => none) 0 [.i .i64 n]) := by
  obtain ⟨k, hk, hw⟩ := and63 n
  refine WX_seq (WX_reg (.inl ⟨_, _, rfl, ?_⟩))
  refine WX_seq (WX_reg (.inl ⟨_, o308, fun h' nx' zs hR => ?_⟩))
  obtain ⟨rfl, rfl, rfl⟩ := hR
  refine .inl ⟨_, _, rfl, ?_⟩
  refine WX_seq (WX_reg (.inl ⟨_, _, rfl, ?_⟩))
  refine .inl ⟨.i .i64 k, .no, ?_, ?_⟩
  · show (if binOk .and (.i .i64 n) (.i .i64 63) then (abin .and (.i .i64 n) (.i .i64 63)).map fun c => (vz c.2, ZD.no) else none) = _
    rw [if_pos (by rfl)]
    show some (Z.i .i64 (IntKind.i64.wrap (BitVec.ofInt 64 n &&& BitVec.ofInt 64 63).toNat), ZD.no) = _
    rw [hw]
  · refine .inl ⟨_, _, rfl, ?_⟩
    refine (topK_ok (zs := [.b true]) (entT_ok tab9_ok) (noY_ok _) kT_ok (by decide) (rAll k hk)).weak (fun t => ?_) ?_ rfl
    · unfold sT
      simp only [absS]
      rw [sabs_put (by decide), sabs_put (by decide), sabs_put (by decide), sabs_put (by decide), sabs_put (by decide), sabs_put (by decide), sabs_put (by decide), sabs_s0]
      simp only [ZS.put, ZS.app, S0Z, upd_apply]
      by_cases e4 : t = 4
      · subst e4; exact .inl rfl
      by_cases e16 : t = 16
      · subst e16; exact .inl rfl
      by_cases e15 : t = 15
      · subst e15; exact .inr rfl
      by_cases e3 : t = 3
      · subst e3; exact .inl rfl
      by_cases e14 : t = 14
      · subst e14; exact .inl rfl
      by_cases e2 : t = 2
      · subst e2; exact .inl rfl
      by_cases e0 : t = 0
      · subst e0; exact .inr rfl
      left
      simp only [if_neg e4, if_neg e16, if_neg e15, if_neg e3, if_neg e14, if_neg e2, if_neg e0]
      obtain ⟨u, rfl⟩ : ∃ u, t = u + 1 := ⟨t - 1, by omega⟩
      rfl
    · exact mabs00
theorem top_spec (n : Int) : SpecZ Tryz.prog 3 (fun _ => none) 0 [.i .i64 n] fun _ _ zs => zs = [.b true] := by
  obtain ⟨fn, hf, hs⟩ := tab9_ok 3 _ t3
  exact specX_at hf hs (by simp) (top_wx n)
end Go.Proofs.YtimgjgookgenoaaGreatDoor
