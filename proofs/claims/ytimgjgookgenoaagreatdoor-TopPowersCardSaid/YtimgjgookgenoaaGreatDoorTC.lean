/- TopPowers: the contract, at whatever numbers. -/
import Derived.Test.YtimgjgookgenoaaGreatDoorQ0
import Derived.Test.YtimgjgookgenoaaGreatDoorQ1
import Derived.Test.YtimgjgookgenoaaGreatDoorQ2
import Derived.Test.YtimgjgookgenoaaGreatDoorQ3
import Derived.Test.YtimgjgookgenoaaGreatDoorQ4
import Derived.Test.YtimgjgookgenoaaGreatDoorQ5
import Derived.Test.YtimgjgookgenoaaGreatDoorQ6
import Derived.Test.YtimgjgookgenoaaGreatDoorQ7
import Derived.Test.YtimgjgookgenoaaGreatDoorQ8
import Derived.Test.YtimgjgookgenoaaGreatDoorQ9
import Derived.Test.YtimgjgookgenoaaGreatDoorQ10
import Derived.Test.YtimgjgookgenoaaGreatDoorQ11
import Derived.Test.YtimgjgookgenoaaGreatDoorQ12
import Derived.Test.YtimgjgookgenoaaGreatDoorQ13
import Derived.Test.YtimgjgookgenoaaGreatDoorQ14
import Derived.Test.YtimgjgookgenoaaGreatDoorQ15
import Derived.Test.YtimgjgookgenoaaGreatDoorQ16
import Derived.Test.YtimgjgookgenoaaGreatDoorQ17
import Derived.Test.YtimgjgookgenoaaGreatDoorQ18
import Derived.Test.YtimgjgookgenoaaGreatDoorQ19
import Derived.Test.YtimgjgookgenoaaGreatDoorQ20
import Derived.Test.YtimgjgookgenoaaGreatDoorQ21
import Derived.Test.YtimgjgookgenoaaGreatDoorQ22
import Derived.Test.YtimgjgookgenoaaGreatDoorQ23
import Derived.Test.YtimgjgookgenoaaGreatDoorQ24
set_option linter.unusedVariables false
set_option linter.unusedSimpArgs false
set_option linter.unusedSectionVars false
namespace Go.Zw
open Go.Proofs
open Go.Vw (SRes SX SO V abin)
set_option maxRecDepth 1000000
set_option maxHeartbeats 4000000
theorem cAll : ∀ x y k, x < 8 → y < 8 → k < 2 → TopOK (x + 1) (y + 1) (k + 2)
  | 0, 0, 0, _, _, _ => c1_1_2
  | 0, 0, 1, _, _, _ => c1_1_3
  | 0, 1, 0, _, _, _ => c1_2_2
  | 0, 1, 1, _, _, _ => c1_2_3
  | 0, 2, 0, _, _, _ => c1_3_2
  | 0, 2, 1, _, _, _ => c1_3_3
  | 0, 3, 0, _, _, _ => c1_4_2
  | 0, 3, 1, _, _, _ => c1_4_3
  | 0, 4, 0, _, _, _ => c1_5_2
  | 0, 4, 1, _, _, _ => c1_5_3
  | 0, 5, 0, _, _, _ => c1_6_2
  | 0, 5, 1, _, _, _ => c1_6_3
  | 0, 6, 0, _, _, _ => c1_7_2
  | 0, 6, 1, _, _, _ => c1_7_3
  | 0, 7, 0, _, _, _ => c1_8_2
  | 0, 7, 1, _, _, _ => c1_8_3
  | 1, 0, 0, _, _, _ => c2_1_2
  | 1, 0, 1, _, _, _ => c2_1_3
  | 1, 1, 0, _, _, _ => c2_2_2
  | 1, 1, 1, _, _, _ => c2_2_3
  | 1, 2, 0, _, _, _ => c2_3_2
  | 1, 2, 1, _, _, _ => c2_3_3
  | 1, 3, 0, _, _, _ => c2_4_2
  | 1, 3, 1, _, _, _ => c2_4_3
  | 1, 4, 0, _, _, _ => c2_5_2
  | 1, 4, 1, _, _, _ => c2_5_3
  | 1, 5, 0, _, _, _ => c2_6_2
  | 1, 5, 1, _, _, _ => c2_6_3
  | 1, 6, 0, _, _, _ => c2_7_2
  | 1, 6, 1, _, _, _ => c2_7_3
  | 1, 7, 0, _, _, _ => c2_8_2
  | 1, 7, 1, _, _, _ => c2_8_3
  | 2, 0, 0, _, _, _ => c3_1_2
  | 2, 0, 1, _, _, _ => c3_1_3
  | 2, 1, 0, _, _, _ => c3_2_2
  | 2, 1, 1, _, _, _ => c3_2_3
  | 2, 2, 0, _, _, _ => c3_3_2
  | 2, 2, 1, _, _, _ => c3_3_3
  | 2, 3, 0, _, _, _ => c3_4_2
  | 2, 3, 1, _, _, _ => c3_4_3
  | 2, 4, 0, _, _, _ => c3_5_2
  | 2, 4, 1, _, _, _ => c3_5_3
  | 2, 5, 0, _, _, _ => c3_6_2
  | 2, 5, 1, _, _, _ => c3_6_3
  | 2, 6, 0, _, _, _ => c3_7_2
  | 2, 6, 1, _, _, _ => c3_7_3
  | 2, 7, 0, _, _, _ => c3_8_2
  | 2, 7, 1, _, _, _ => c3_8_3
  | 3, 0, 0, _, _, _ => c4_1_2
  | 3, 0, 1, _, _, _ => c4_1_3
  | 3, 1, 0, _, _, _ => c4_2_2
  | 3, 1, 1, _, _, _ => c4_2_3
  | 3, 2, 0, _, _, _ => c4_3_2
  | 3, 2, 1, _, _, _ => c4_3_3
  | 3, 3, 0, _, _, _ => c4_4_2
  | 3, 3, 1, _, _, _ => c4_4_3
  | 3, 4, 0, _, _, _ => c4_5_2
  | 3, 4, 1, _, _, _ => c4_5_3
  | 3, 5, 0, _, _, _ => c4_6_2
  | 3, 5, 1, _, _, _ => c4_6_3
  | 3, 6, 0, _, _, _ => c4_7_2
  | 3, 6, 1, _, _, _ => c4_7_3
  | 3, 7, 0, _, _, _ => c4_8_2
  | 3, 7, 1, _, _, _ => c4_8_3
  | 4, 0, 0, _, _, _ => c5_1_2
  | 4, 0, 1, _, _, _ => c5_1_3
  | 4, 1, 0, _, _, _ => c5_2_2
  | 4, 1, 1, _, _, _ => c5_2_3
  | 4, 2, 0, _, _, _ => c5_3_2
  | 4, 2, 1, _, _, _ => c5_3_3
  | 4, 3, 0, _, _, _ => c5_4_2
  | 4, 3, 1, _, _, _ => c5_4_3
  | 4, 4, 0, _, _, _ => c5_5_2
  | 4, 4, 1, _, _, _ => c5_5_3
  | 4, 5, 0, _, _, _ => c5_6_2
  | 4, 5, 1, _, _, _ => c5_6_3
  | 4, 6, 0, _, _, _ => c5_7_2
  | 4, 6, 1, _, _, _ => c5_7_3
  | 4, 7, 0, _, _, _ => c5_8_2
  | 4, 7, 1, _, _, _ => c5_8_3
  | 5, 0, 0, _, _, _ => c6_1_2
  | 5, 0, 1, _, _, _ => c6_1_3
  | 5, 1, 0, _, _, _ => c6_2_2
  | 5, 1, 1, _, _, _ => c6_2_3
  | 5, 2, 0, _, _, _ => c6_3_2
  | 5, 2, 1, _, _, _ => c6_3_3
  | 5, 3, 0, _, _, _ => c6_4_2
  | 5, 3, 1, _, _, _ => c6_4_3
  | 5, 4, 0, _, _, _ => c6_5_2
  | 5, 4, 1, _, _, _ => c6_5_3
  | 5, 5, 0, _, _, _ => c6_6_2
  | 5, 5, 1, _, _, _ => c6_6_3
  | 5, 6, 0, _, _, _ => c6_7_2
  | 5, 6, 1, _, _, _ => c6_7_3
  | 5, 7, 0, _, _, _ => c6_8_2
  | 5, 7, 1, _, _, _ => c6_8_3
  | 6, 0, 0, _, _, _ => c7_1_2
  | 6, 0, 1, _, _, _ => c7_1_3
  | 6, 1, 0, _, _, _ => c7_2_2
  | 6, 1, 1, _, _, _ => c7_2_3
  | 6, 2, 0, _, _, _ => c7_3_2
  | 6, 2, 1, _, _, _ => c7_3_3
  | 6, 3, 0, _, _, _ => c7_4_2
  | 6, 3, 1, _, _, _ => c7_4_3
  | 6, 4, 0, _, _, _ => c7_5_2
  | 6, 4, 1, _, _, _ => c7_5_3
  | 6, 5, 0, _, _, _ => c7_6_2
  | 6, 5, 1, _, _, _ => c7_6_3
  | 6, 6, 0, _, _, _ => c7_7_2
  | 6, 6, 1, _, _, _ => c7_7_3
  | 6, 7, 0, _, _, _ => c7_8_2
  | 6, 7, 1, _, _, _ => c7_8_3
  | 7, 0, 0, _, _, _ => c8_1_2
  | 7, 0, 1, _, _, _ => c8_1_3
  | 7, 1, 0, _, _, _ => c8_2_2
  | 7, 1, 1, _, _, _ => c8_2_3
  | 7, 2, 0, _, _, _ => c8_3_2
  | 7, 2, 1, _, _, _ => c8_3_3
  | 7, 3, 0, _, _, _ => c8_4_2
  | 7, 3, 1, _, _, _ => c8_4_3
  | 7, 4, 0, _, _, _ => c8_5_2
  | 7, 4, 1, _, _, _ => c8_5_3
  | 7, 5, 0, _, _, _ => c8_6_2
  | 7, 5, 1, _, _, _ => c8_6_3
  | 7, 6, 0, _, _, _ => c8_7_2
  | 7, 6, 1, _, _, _ => c8_7_3
  | 7, 7, 0, _, _, _ => c8_8_2
  | 7, 7, 1, _, _, _ => c8_8_3
  | x + 8, _, _, h, _, _ => absurd h (by omega)
  | _, y + 8, _, _, h, _ => absurd h (by omega)
  | _, _, k + 2, _, _, h => absurd h (by omega)
theorem t4 : yslimF Tryz.prog Tryz.f4 = some (96, .seq (.reg [⟨some 6, .o (.mv (.c (.b false))), none⟩]) (.seq (.reg [⟨some 20, .o (.call (.f 6) []), none⟩, ⟨some 7, .o (.mv (.t 20)), none⟩]) (.seq (.reg [⟨some 21, .o (.mv (.t 2)), none⟩, ⟨some 22, .o (.bin .and (.t 21) (.c (.i .i64 1))), none⟩, ⟨some 23, .o (.bin .add (.c (.i .i64 2)) (.t 22)), none⟩, ⟨some 8, .o (.mv (.t 23)), none⟩])
  (.seq (.reg [⟨some 24, .o (.mv (.t 0)), none⟩, ⟨some 25, .o (.bin .and (.t 24) (.c (.i .i64 7))), none⟩, ⟨some 26, .o (.bin .add (.c (.i .i64 1)) (.t 25)), none⟩, ⟨some 9, .o (.mv (.t 26)), none⟩]) (.seq (.reg [⟨some 27, .o (.mv (.t 1)), none⟩, ⟨some 28, .o (.bin .and (.t 27) (.c (.i .i64 7))), none⟩, ⟨some 29, .o (.bin .add (.c (.i .i64 1)) (.t 28)), none⟩, ⟨some 10, .o (.mv (.t 29)), none⟩]) rest4)))), [.tmp 6]) := by kernel_rfl
theorem andm (n : Int) (m : Nat) (hm : m < 8) : ∃ k : Nat, k ≤ m ∧ (if binOk .and (.i .i64 n) (.i .i64 m) then (abin .and (.i .i64 n) (.i .i64 m)).map fun c => (vz c.2, ZD.no) else none) = some (Z.i .i64 k, .no) := by
  refine ⟨(BitVec.ofInt 64 n &&& BitVec.ofInt 64 m).toNat, ?_, ?_⟩
  · rw [BitVec.toNat_and]
    refine Nat.le_trans Nat.and_le_right ?_
    simp only [BitVec.toNat_ofInt]
    omega
  · rw [if_pos (by rfl)]
    show some (Z.i .i64 (IntKind.i64.wrap (BitVec.ofInt 64 n &&& BitVec.ofInt 64 m).toNat), ZD.no) = _
    have h : (BitVec.ofInt 64 n &&& BitVec.ofInt 64 m).toNat < 64 := by
      rw [BitVec.toNat_and]
      refine Nat.lt_of_le_of_lt Nat.and_le_right ?_
      simp only [BitVec.toNat_ofInt]
      omega
    obtain ⟨k, hk⟩ : ∃ k, k = (BitVec.ofInt 64 n &&& BitVec.ofInt 64 m).toNat := ⟨_, rfl⟩
    rw [← hk] at h ⊢
    rw [Go.Vw.i64_int _ (by omega) (by omega)]
theorem addm (c k : Nat) (hc : c < 3) (hk : k < 8) : (if binOk .add (.i .i64 c) (.i .i64 k) then (abin .add (.i .i64 c) (.i .i64 k)).map fun c => (vz c.2, ZD.no) else none) = some (Z.i .i64 ((k + c : Nat) : Int), .no) := by
  have h1 : c = 0 ∨ c = 1 ∨ c = 2 := by omega
  have h2 : k = 0 ∨ k = 1 ∨ k = 2 ∨ k = 3 ∨ k = 4 ∨ k = 5 ∨ k = 6 ∨ k = 7 := by omega
  rcases h1 with rfl | rfl | rfl <;> rcases h2 with rfl | rfl | rfl | rfl | rfl | rfl | rfl | rfl <;> rfl
theorem top_wx (a b n : Int) : WX Tryz.prog none 96 (.seq (.reg [⟨some 6, .o (.mv (.c (.b false))), none⟩]) (.seq (.reg [⟨some 20, .o (.call (.f 6) []), none⟩, ⟨some 7, .o (.mv (.t 20)), none⟩]) (.seq (.reg [⟨some 21, .o (.mv (.t 2)), none⟩, ⟨some 22, .o (.bin .and (.t 21) (.c (.i .i64 1))), none⟩, ⟨some 23, .o (.bin .add (.c (.i .i64 2)) (.t 22)), none⟩, ⟨some 8, .o (.mv (.t 23)), none⟩])
  (.seq (.reg [⟨some 24, .o (.mv (.t 0)), none⟩, ⟨some 25, .o (.bin .and (.t 24) (.c (.i .i64 7))), none⟩, ⟨some 26, .o (.bin .add (.c (.i .i64 1)) (.t 25)), none⟩, ⟨some 9, .o (.mv (.t 26)), none⟩]) (.seq (.reg [⟨some 27, .o (.mv (.t 1)), none⟩, ⟨some 28, .o (.bin .and (.t 27) (.c (.i .i64 7))), none⟩, ⟨some 29, .o (.bin .add (.c (.i .i64 1)) (.t 28)), none⟩, ⟨some 10, .o (.mv (.t 29)), none⟩]) rest4)))))
    (retD Tryz.prog [.tmp 6] fun _ _ zs => zs = [.b true]) .clean (S0Z (fun _ => none) 0 [.i .i64 a, .i .i64 b, .i .i64 n]) := by
  obtain ⟨k, hk, wk⟩ := andm n 1 (by omega)
  obtain ⟨x, hx, wx⟩ := andm a 7 (by omega)
  obtain ⟨y, hy, wy⟩ := andm b 7 (by omega)
  have vk := addm 2 k (by omega) (by omega)
  have vx := addm 1 x (by omega) (by omega)
  have vy := addm 1 y (by omega) (by omega)
  refine WX_seq (WX_reg (.inl ⟨_, _, rfl, ?_⟩))
  refine WX_seq (WX_reg (.inl ⟨_, awake_ok, fun h' nx' zs hR => ?_⟩))
  obtain ⟨rfl, rfl, rfl⟩ := hR
  refine .inl ⟨_, _, rfl, ?_⟩
  refine WX_seq (WX_reg (.inl ⟨_, _, rfl, ?_⟩))
  refine .inl ⟨.i .i64 k, .no, wk, ?_⟩
  refine .inl ⟨.i .i64 ((k + 2 : Nat) : Int), .no, vk, ?_⟩
  refine .inl ⟨_, _, rfl, ?_⟩
  refine WX_seq (WX_reg (.inl ⟨_, _, rfl, ?_⟩))
  refine .inl ⟨.i .i64 x, .no, wx, ?_⟩
  refine .inl ⟨.i .i64 ((x + 1 : Nat) : Int), .no, vx, ?_⟩
  refine .inl ⟨_, _, rfl, ?_⟩
  refine WX_seq (WX_reg (.inl ⟨_, _, rfl, ?_⟩))
  refine .inl ⟨.i .i64 y, .no, wy, ?_⟩
  refine .inl ⟨.i .i64 ((y + 1 : Nat) : Int), .no, vy, ?_⟩
  refine .inl ⟨_, _, rfl, ?_⟩
  refine WX.weak (cAll x y k (by omega) (by omega) (by omega)) (fun t => ?_) ?_ rfl
  · unfold sT
    simp only [absS]
    rw [sabs_put (by decide), sabs_put (by decide), sabs_put (by decide), sabs_put (by decide), sabs_put (by decide), sabs_put (by decide), sabs_put (by decide), sabs_put (by decide), sabs_put (by decide), sabs_put (by decide), sabs_put (by decide), sabs_put (by decide), sabs_put (by decide), sabs_put (by decide), sabs_put (by decide), sabs_put (by decide), sabs_put (by decide), sabs_put (by decide), sabs_s0]
    simp only [ZS.put, ZS.app, S0Z, upd_apply]
    by_cases e10 : t = 10
    · subst e10; exact .inl rfl
    by_cases e29 : t = 29
    · subst e29; exact .inl rfl
    by_cases e28 : t = 28
    · subst e28; exact .inr rfl
    by_cases e27 : t = 27
    · subst e27; exact .inr rfl
    by_cases e9 : t = 9
    · subst e9; exact .inl rfl
    by_cases e26 : t = 26
    · subst e26; exact .inl rfl
    by_cases e25 : t = 25
    · subst e25; exact .inr rfl
    by_cases e24 : t = 24
    · subst e24; exact .inr rfl
    by_cases e8 : t = 8
    · subst e8; exact .inl rfl
    by_cases e23 : t = 23
    · subst e23; exact .inl rfl
    by_cases e22 : t = 22
    · subst e22; exact .inr rfl
    by_cases e21 : t = 21
    · subst e21; exact .inr rfl
    by_cases e7 : t = 7
    · subst e7; exact .inl rfl
    by_cases e20 : t = 20
    · subst e20; exact .inl rfl
    by_cases e6 : t = 6
    · subst e6; exact .inl rfl
    by_cases e2 : t = 2
    · subst e2; exact .inr rfl
    by_cases e1 : t = 1
    · subst e1; exact .inr rfl
    by_cases e0 : t = 0
    · subst e0; exact .inr rfl
    left
    simp only [if_neg e10, if_neg e29, if_neg e28, if_neg e27, if_neg e9, if_neg e26, if_neg e25, if_neg e24, if_neg e8, if_neg e23, if_neg e22, if_neg e21, if_neg e7, if_neg e20, if_neg e6, if_neg e2, if_neg e1, if_neg e0]
    obtain ⟨u, rfl⟩ : ∃ u, t = u + 3 := ⟨t - 3, by omega⟩
    rfl
  · exact mabs00
theorem top_spec (a b n : Int) : SpecZ Tryz.prog 4 (fun _ => none) 0 [.i .i64 a, .i .i64 b, .i .i64 n] fun _ _ zs => zs = [.b true] := by
  exact specX_at Tryz.func4 (yslimF_ok Tryz.func4 (by kernel_rfl) t4) (by simp) (top_wx a b n)
end Go.Zw
