/- The table of codes; Add64, Sub64, Mul64. -/
import Derived.Test.YtimgjgookgenoaaGreatDoorLS
import Derived.Test.YtimgjgookgenoaaGreatDoorL0
import Derived.Test.YtimgjgookgenoaaGreatDoorL1
import Derived.Test.YtimgjgookgenoaaGreatDoorL2
import Derived.Test.YtimgjgookgenoaaGreatDoorL3
import Derived.Test.YtimgjgookgenoaaGreatDoorLx
import Derived.Test.YtimgjgookgenoaaGreatDoorL5
import Derived.Test.YtimgjgookgenoaaGreatDoorL6
import Derived.Test.YtimgjgookgenoaaGreatDoorL7
import Derived.Test.YtimgjgookgenoaaGreatDoorL8
import Derived.Test.YtimgjgookgenoaaGreatDoorL9
import Derived.Test.YtimgjgookgenoaaGreatDoorL10
import Derived.Test.YtimgjgookgenoaaGreatDoorL11
import Derived.KernelRfl
set_option linter.unusedVariables false
set_option linter.unusedSimpArgs false
set_option linter.unusedSectionVars false
namespace Go.Zw
open Go.Proofs
set_option maxRecDepth 1000000
set_option maxHeartbeats 40000000
noncomputable def tv (t : BT CT) : CT := @BT.rec CT (fun _ => CT) (0, fun _ _ _ _ _ => .bad, []) (fun _ v _ _ _ _ => v) t
theorem tv_ok {P : Program} {ent : FuncId → Bool} {k : Nat} {t : BT CT} (h : t.all (CtOK P ent)) (e : ∃ v, t = .node k v .nil .nil := by exact ⟨_, rfl⟩) : CtOK P ent k (tv t) := by
  obtain ⟨v, rfl⟩ := e
  exact h.1
noncomputable def t9 : BT CT := (.node 216 (tv c216.val) (.node 97 (tv c97.val) (.node 48 (tv c48.val) (.node 27 (tv c27.val) (.node 14 (tv c14.val) c9_0.val c9_1.val) (.node 37 (tv c37.val) c9_2.val c9_3.val)) (.node 75 (tv c75.val) (.node 64 (tv c64.val) c9_4.val c9_5.val) (.node 86 (tv c86.val) c9_6.val c9_7.val))) (.node 153 (tv c153.val) (.node 131 (tv c131.val) (.node 120 (tv c120.val) c9_8.val c9_9.val) (.node 143 (tv c143.val) c9_10.val c9_11.val)) (.node 179 (tv c179.val) (.node 166 (tv c166.val) c9_12.val c9_13.val) (.node 189 (tv c189.val) c9_14.val (.node 212 (tv c212.val) c9_15.val c9_16.val))))) (.node 358 (tv c358.val) (.node 271 (tv c271.val) (.node 244 (tv c244.val) (.node 230 (tv c230.val) c9_17.val c9_18.val) (.node 261 (tv c261.val) c9_19.val c9_20.val)) (.node 329 (tv c329.val) (.node 314 (tv c314.val) c9_21.val c9_22.val) (.node 339 (tv c339.val) c9_23.val (.node 355 (tv c355.val) c9_24.val c9_25.val)))) (.node 434 (tv c434.val) (.node 390 (tv c390.val) (.node 380 (tv c380.val) c9_26.val c9_27.val) (.node 419 (tv c419.val) c9_28.val c9_29.val)) (.node 471 (tv c471.val) (.node 453 (tv c453.val) c9_30.val c9_31.val) (.node 496 (tv c496.val) c9_32.val c9_33.val)))))
theorem t9_ok : t9.all (CtOK Tryz.prog (entK K9)) := ⟨tv_ok o216, ⟨tv_ok o97, ⟨tv_ok o48, ⟨tv_ok o27, ⟨tv_ok o14, o9_0, o9_1⟩, ⟨tv_ok o37, o9_2, o9_3⟩⟩, ⟨tv_ok o75, ⟨tv_ok o64, o9_4, o9_5⟩, ⟨tv_ok o86, o9_6, o9_7⟩⟩⟩, ⟨tv_ok o153, ⟨tv_ok o131, ⟨tv_ok o120, o9_8, o9_9⟩, ⟨tv_ok o143, o9_10, o9_11⟩⟩, ⟨tv_ok o179, ⟨tv_ok o166, o9_12, o9_13⟩, ⟨tv_ok o189, o9_14, ⟨tv_ok o212, o9_15, o9_16⟩⟩⟩⟩⟩, ⟨tv_ok o358, ⟨tv_ok o271, ⟨tv_ok o244, ⟨tv_ok o230, o9_17, o9_18⟩, ⟨tv_ok o261, o9_19, o9_20⟩⟩, ⟨tv_ok o329, ⟨tv_ok o314, o9_21, o9_22⟩, ⟨tv_ok o339, o9_23, ⟨tv_ok o355, o9_24, o9_25⟩⟩⟩⟩, ⟨tv_ok o434, ⟨tv_ok o390, ⟨tv_ok o380, o9_26, o9_27⟩, ⟨tv_ok o419, o9_28, o9_29⟩⟩, ⟨tv_ok o471, ⟨tv_ok o453, o9_30, o9_31⟩, ⟨tv_ok o496, o9_32, o9_33⟩⟩⟩⟩⟩
theorem t9_keys : t9.keys = K9 := rfl
noncomputable def dtab9 : FuncId → Option TD := tabD Tryz.prog [242]
noncomputable def slm9 (n : Nat) (c : Code) : Option XC := xslimCode Tryz.prog n c
noncomputable def con9 : (YT → Fn3) → YT → Fn3 := conX 127 133 245 306
end Go.Zw
namespace Go.Zw
open Go.Proofs
set_option maxRecDepth 1000000
set_option maxHeartbeats 40000000
theorem e127 : ExtF Tryz.prog 127 addEntry := ⟨Tryz.f127, Tryz.func127, by kernel_rfl, by kernel_rfl, by kernel_rfl, by kernel_rfl⟩
theorem e133 : ExtF Tryz.prog 133 subEntry := ⟨Tryz.f133, Tryz.func133, by kernel_rfl, by kernel_rfl, by kernel_rfl, by kernel_rfl⟩
theorem e245 : ExtF Tryz.prog 245 Extern.BytealgIndexByte.indexByte := ⟨Tryz.f245, Tryz.func245, by kernel_rfl, by kernel_rfl, by kernel_rfl, by kernel_rfl⟩
theorem e306 : ExtF Tryz.prog 306 Extern.AbiNoEscape.same := ⟨Tryz.f306, Tryz.func306, by kernel_rfl, by kernel_rfl, by kernel_rfl, by kernel_rfl⟩
theorem con9_ok : ConOK Tryz.prog con9 := conX_ok e127 e133 e245 e306
theorem dtab9_ok : DTabOK Tryz.prog dtab9 := tabD_ok _ _
noncomputable def uAdd (args : List Z) : RR := a3 args fun a b c => @Bool.rec (fun _ => RR) (frc (Nat.add (Nat.add a b) c) fun s => frc (Nat.mod s 18446744073709551616) fun lo => frc (Nat.div s 18446744073709551616) fun hi => two lo hi) (two (Nat.add (Nat.add a b) c) 0) (Nat.ble (Nat.add (Nat.add a b) c) 18446744073709551615)
noncomputable def uSub (args : List Z) : RR := a3 args fun a b c => @Bool.rec (fun _ => RR) (frc (Nat.mod (Nat.sub (Nat.sub (Nat.add a 18446744073709551616) b) c) 18446744073709551616) fun lo => two lo 1) (@Bool.rec (fun _ => RR) (frc (Nat.mod (Nat.sub a (Nat.add b c)) 18446744073709551616) fun lo => two lo 0) (two (Nat.sub a (Nat.add b c)) 0) (Nat.ble a 18446744073709551615)) (Nat.ble (Nat.add b c) a)
theorem uAdd_eq (args : List Z) : uAdd args = kAdd64 args := by
  unfold uAdd kAdd64
  congr 1
  funext a b c
  cases e : Nat.ble (Nat.add (Nat.add a b) c) 18446744073709551615 with
  | false => rfl
  | true =>
    have h : Nat.add (Nat.add a b) c ≤ 18446744073709551615 := Nat.le_of_ble_eq_true e
    rw [frc_eq, frc_eq, frc_eq]
    show two _ 0 = two (Nat.add (Nat.add a b) c % 18446744073709551616) (Nat.add (Nat.add a b) c / 18446744073709551616)
    rw [Nat.mod_eq_of_lt (by omega), Nat.div_eq_of_lt (by omega)]
theorem uSub_eq (args : List Z) : uSub args = kSub64 args := by
  unfold uSub kSub64
  congr 1
  funext a b c
  rw [frc_eq, frc_eq, frc_eq]
  cases e : Nat.ble (Nat.add b c) a with
  | false => rfl
  | true =>
    have h : b + c ≤ a := Nat.le_of_ble_eq_true e
    have hm : (a + 18446744073709551616 - b - c) % 18446744073709551616 = (a - (b + c)) % 18446744073709551616 := by
      rw [show a + 18446744073709551616 - b - c = (a - (b + c)) + 18446744073709551616 by omega, Nat.add_mod_right]
    show @Bool.rec (fun _ => RR) (two ((a - (b + c)) % 18446744073709551616) 0) (two (a - (b + c)) 0) (Nat.ble a 18446744073709551615) = two ((a + 18446744073709551616 - b - c) % 18446744073709551616) 0
    rw [hm]
    cases e2 : Nat.ble a 18446744073709551615 with
    | false => rfl
    | true =>
      have h2 : a ≤ 18446744073709551615 := Nat.le_of_ble_eq_true e2
      show two _ 0 = _
      rw [Nat.mod_eq_of_lt (a := a - (b + c)) (by omega)]
noncomputable def conS0 : (YT → Fn3) → YT → Fn3 := fun g y id m args => @Bool.rec (fun _ => RR) (@Bool.rec (fun _ => RR) (con9 g y id m args) (uSub args) (Nat.beq id 133)) (uAdd args) (Nat.beq id 127)
theorem conS0_ok : ConOK Tryz.prog conS0 := by
  intro g hg y hy id m args h1 h2
  have only : ∀ {f : Nat → Nat → Nat → RR} {x : RR}, x = a3 args f → (∀ a b c v dt, f a b c ≠ .pan v dt) → (∀ zs ups news, x = .ok zs ups news → AnsOK Tryz.prog id (mabs m) m.nx args zs ups news) → (∀ zs ups news, x = .ok zs ups news → AnsOK Tryz.prog id (mabs m) m.nx args zs ups news) ∧
      ∀ v dt, x = .pan v dt → ∃ val, zcv v = some val ∧ SpecP Tryz.prog id (mabs m) m.nx args val (dropF (mabs m) dt) := fun {f x} e hp hx => by
    refine ⟨hx, fun v dt h => ?_⟩
    obtain ⟨_, a, _, b, _, c, _, _, h⟩ := a3_inv (e.symm.trans h) (by simp)
    exact absurd h (hp a b c v dt)
  unfold conS0
  cases e1 : Nat.beq id 127 with
  | true =>
    obtain rfl := Nat.eq_of_beq_eq_true e1
    exact only (x := uAdd args) (uAdd_eq args) (fun a b c v dt h => by rw [frc_eq, frc_eq, frc_eq] at h; cases h) fun zs ups news h => kAdd64_ok e127 (by rw [← uAdd_eq]; exact h)
  | false =>
  cases e2 : Nat.beq id 133 with
  | true =>
    obtain rfl := Nat.eq_of_beq_eq_true e2
    exact only (x := uSub args) (uSub_eq args) (fun a b c v dt h => by rw [frc_eq] at h; revert h; cases Nat.ble (Nat.add b c) a <;> exact fun h => by cases h) fun zs ups news h => kSub64_ok e133 (by rw [← uSub_eq]; exact h)
  | false => exact con9_ok g hg y hy id m args h1 h2
noncomputable def kS0 : YT → Fn3 := kfunV conS0 (entK K9) t9.find dtab9 1000 40
theorem kS0_ok : GOK Tryz.prog kS0 := kfunV_ok conS0_ok t9_keys t9_ok dtab9_ok 40
end Go.Zw
namespace Go.Zw
open Go.Proofs
set_option maxRecDepth 1000000
set_option maxHeartbeats 4000000
theorem ble_f {a b : Nat} (h : b < a) : Nat.ble a b = false := by
  cases e : Nat.ble a b with
  | false => rfl
  | true => have := Nat.le_of_ble_eq_true e; omega
theorem wrN_u {n : Nat} (h : n < 18446744073709551616) (f : Z → RR) : wrN .u64 n f = f (.i .u64 (.ofNat n)) := by
  show frc (Nat.mod n 18446744073709551616) (fun n => f (.i .u64 (.ofNat n))) = _
  rw [frc_eq]
  rw [show Nat.mod n 18446744073709551616 = n from Nat.mod_eq_of_lt h]
theorem u_and {x y r : Nat} (hx : x < 18446744073709551616) (hy : y < 18446744073709551616) (hr : Nat.land x y = r) (hr2 : r < 18446744073709551616) (f : Z → RR) : aAnd .u64 .u64 (.ofNat x) (.ofNat y) f = f (.i .u64 (.ofNat r)) := by
  show @Bool.rec (fun _ => RR) (@Bool.rec (fun _ => RR) (wrN .u64 (Nat.land x y) f) .bad (Nat.ble 18446744073709551616 y)) .bad (Nat.ble 18446744073709551616 x) = _
  rw [ble_f hx, ble_f hy, hr]
  exact wrN_u hr2 f
theorem u_mul {x y r : Nat} (hr : x * y = r) (hr2 : r < 18446744073709551616) (f : Z → RR) : aMul .u64 .u64 (.ofNat x) (.ofNat y) f = f (.i .u64 (.ofNat r)) := by
  show wrN .u64 (Nat.mul x y) f = _
  rw [show Nat.mul x y = r from hr]
  exact wrN_u hr2 f
theorem u_add {x y r : Nat} (hr : x + y = r) (hr2 : r < 18446744073709551616) (f : Z → RR) : aAdd .u64 .u64 (.ofNat x) (.ofNat y) f = f (.i .u64 (.ofNat r)) := by
  show wrN .u64 (Nat.add x y) f = _
  rw [show Nat.add x y = r from hr]
  exact wrN_u hr2 f
theorem u_shr {x r : Nat} (hr : x / 4294967296 = r) (f : Z → RR) : aShr .u64 .u64 (.ofNat x) (.ofNat 32) f = f (.i .u64 (.ofNat r)) := by
  show frc (Nat.div x 4294967296) (fun n => f (.i .u64 (.ofNat n))) = _
  rw [frc_eq, show Nat.div x 4294967296 = r from hr]
theorem land_mask {x : Nat} (h : x < 4294967296) : Nat.land x 4294967295 = x := by
  have := Nat.and_two_pow_sub_one_eq_mod x 32
  show x &&& (2 ^ 32 - 1) = x
  rw [this]; exact Nat.mod_eq_of_lt h
section
attribute [local irreducible] wBin
theorem wb {a : Ar} {s : Sr} {x y r : Nat} (h : ∀ f, a .u64 .u64 (.ofNat x) (.ofNat y) f = f (.i .u64 (.ofNat r))) (m : Mem) (F : KF) : wBin a s (.i .u64 (.ofNat x)) (.i .u64 (.ofNat y)) m F = F (.i .u64 (.ofNat r)) m := by
  unfold wBin
  exact h _
theorem mul64 (x y p q : Nat) (hx : x < 4294967296) (hy : y < 4294967296) (hp : x * y = p) (hq : p / 4294967296 = q) : kS0 noY 126 (memL []) [.i .u64 (.ofNat x), .i .u64 (.ofNat y)] = .ok [.i .u64 (.ofNat 0), .i .u64 (.ofNat p)] [] [] := by
  have hp2 : p < 18446744073709551616 := by
    rw [← hp]
    have : x * y ≤ 4294967295 * 4294967295 := Nat.mul_le_mul (by omega) (by omega)
    omega
  have hq2 : q < 4294967296 := by rw [← hq]; omega
  have e1 := @wb aAnd sBad x 4294967295 x fun f => u_and (by omega) (by omega) (land_mask hx) (by omega) f
  have e2 := @wb aShr sBad x 32 0 fun f => u_shr (by omega) f
  have e3 := @wb aAnd sBad y 4294967295 y fun f => u_and (by omega) (by omega) (land_mask hy) (by omega) f
  have e4 := @wb aShr sBad y 32 0 fun f => u_shr (by omega) f
  have e5 := @wb aMul sBad x y p fun f => u_mul hp hp2 f
  have e6 := @wb aMul sBad 0 y 0 fun f => u_mul (by omega) (by omega) f
  have e7 := @wb aShr sBad p 32 q fun f => u_shr hq f
  have e8 := @wb aAdd sAdd 0 q q fun f => u_add (by omega) (by omega) f
  have e9 := @wb aAnd sBad q 4294967295 q fun f => u_and (by omega) (by omega) (land_mask hq2) (by omega) f
  have e10 := @wb aShr sBad q 32 0 fun f => u_shr (by omega) f
  have e11 := @wb aMul sBad x 0 0 fun f => u_mul (by omega) (by omega) f
  have e12 := @wb aAdd sAdd q 0 q fun f => u_add (by omega) (by omega) f
  have e13 := @wb aMul sBad 0 0 0 fun f => u_mul (by omega) (by omega) f
  have e14 := @wb aAdd sAdd 0 0 0 fun f => u_add (by omega) (by omega) f
  iterate 17 (
    conv =>
      lhs
      whnf
      arg 4
      whnf
      (first | rw [e1] | rw [e2] | rw [e3] | rw [e4] | rw [e5] | rw [e6] | rw [e7] | rw [e8] | rw [e9] | rw [e10] | rw [e11] | rw [e12] | rw [e13] | rw [e14]))
  kernel_rfl
end
noncomputable def n126 (args : List Z) (g : RR) : RR := match args with
  | [.i .u64 (.ofNat x), .i .u64 (.ofNat y)] => @Bool.rec (fun _ => RR) g (@Bool.rec (fun _ => RR) g (.ok [.i .u64 (.ofNat 0), .i .u64 (.ofNat (Nat.mul x y))] [] []) (Nat.ble y 4294967295)) (Nat.ble x 4294967295)
  | _ => g
theorem n126_inv (args : List Z) (g : RR) : n126 args g = g ∨ ∃ x y, args = [.i .u64 (.ofNat x), .i .u64 (.ofNat y)] ∧ x ≤ 4294967295 ∧ y ≤ 4294967295 ∧ n126 args g = .ok [.i .u64 (.ofNat 0), .i .u64 (.ofNat (Nat.mul x y))] [] [] := by
  unfold n126
  split
  · rename_i x y
    cases e1 : Nat.ble x 4294967295 with
    | false => exact .inl rfl
    | true =>
    cases e2 : Nat.ble y 4294967295 with
    | false => exact .inl rfl
    | true => exact .inr ⟨x, y, rfl, Nat.le_of_ble_eq_true e1, Nat.le_of_ble_eq_true e2, rfl⟩
  · exact .inl rfl
noncomputable def conS : (YT → Fn3) → YT → Fn3 := fun g y id m args => @Bool.rec (fun _ => RR) (conS0 g y id m args) (n126 args (conS0 g y id m args)) (Nat.beq id 126)
theorem conS_ok : ConOK Tryz.prog conS := by
  intro g hg y hy id m args h1 h2
  have hm := conS0_ok g hg y hy id m args h1 h2
  unfold conS
  cases e1 : Nat.beq id 126 with
  | false => exact hm
  | true =>
    obtain rfl := Nat.eq_of_beq_eq_true e1
    rcases n126_inv args (conS0 g y 126 m args) with e | ⟨a, b, rfl, ha, hb, e⟩
    · show (∀ zs ups news, n126 args (conS0 g y 126 m args) = _ → _) ∧ _
      rw [e]; exact hm
    · show (∀ zs ups news, n126 _ (conS0 g y 126 m _) = _ → _) ∧ (∀ v dt, n126 _ (conS0 g y 126 m _) = _ → _)
      rw [e]
      refine ⟨fun zs' ups' news' h => ?_, fun v dt h => by cases h⟩
      simp only [RR.ok.injEq] at h
      obtain ⟨rfl, rfl, rfl⟩ := h
      exact at_0 h2 ⟨trivial, trivial, trivial⟩ rfl (fact_at kS0_ok (noY_ok _) (mul64 a b _ _ (by omega) (by omega) rfl rfl) rfl) (by cases m; rfl)
noncomputable def kS : YT → Fn3 := kfunV conS (entK K9) t9.find dtab9 1000 40
theorem kS_ok : GOK Tryz.prog kS := kfunV_ok conS_ok t9_keys t9_ok dtab9_ok 40
end Go.Zw
