/- TopPowers: its code behind the making of its numbers. -/
import Derived.Test.YtimgjgookgenoaaGreatDoorNF
import Derived.KernelRfl
set_option linter.unusedVariables false
set_option linter.unusedSimpArgs false
set_option linter.unusedSectionVars false
namespace Go.Zw
open Go.Proofs
/-- Slots of which less is told. -/
theorem WX.weak {P : Program} {ro : Option Nat} {n : Nat} {Q : Exit → DZ → ZS → Prop} {d : DZ} {S S' : ZS} {sc : XC} (h : WX P ro n sc Q d S') (h1 : ∀ t, S'.σ t = S.σ t ∨ S'.σ t = .any) (h2 : S'.h = S.h) (h3 : S'.nx = S.nx) : WX P ro n sc Q d S := by
  intro m c hc w0 a w hR
  refine h m c hc w0 a w ?_
  obtain ⟨w1, E, R⟩ := hR
  obtain ⟨μ, H, rel⟩ := R.ex
  refine ⟨w1, E, ⟨μ, by rw [h2, h3]; exact H, fun t => ?_⟩, R.below, R.size, R.defers⟩
  rcases h1 t with e | e
  · rw [e, h3]; exact rel t
  · rw [e]; exact .any _

noncomputable def fstX (c : XC) : XC := @XC.rec (fun _ => XC) .no (fun a _ _ _ => a) (fun _ => .no) (fun _ _ => .no) (fun _ _ _ _ _ _ => .no) (fun _ _ => .no) (fun _ _ _ _ _ => .no) (fun _ _ _ => .no) (fun _ _ => .no) (fun _ _ => .no) (fun _ => .no) .no .no c
noncomputable def sndX (c : XC) : XC := @XC.rec (fun _ => XC) .no (fun _ b _ _ => b) (fun _ => .no) (fun _ _ => .no) (fun _ _ _ _ _ _ => .no) (fun _ _ => .no) (fun _ _ _ _ _ => .no) (fun _ _ _ => .no) (fun _ _ => .no) (fun _ _ => .no) (fun _ => .no) .no .no c
noncomputable def codeT (t : Option T3) : XC := @Option.rec T3 (fun _ => XC) .no (fun t => t.2.1) t
/-- An end that hands out the results alone. -/
noncomputable def finT (rs : List Go.Vw.SRes) : Kont := fun s m c => cleanK c (retsK rs s m fun zs => .ok zs [] [])
noncomputable def m00 : Mem := .mk h00 0 0 []
noncomputable def topK (ent : FuncId → Bool) (n : Nat) (sc : XC) (rs : List Go.Vw.SRes) (y : YT) (g : YT → Fn3) (s : SL) : RR := @FC.rec (fun _ => RR) (fun F => F (.nil (finT rs)) (finT rs) s m00 (.mk y g (fun _ _ _ _ => .bad) .clean)) (kcode ent false n 1000 sc)
theorem mabs00 : mabs m00 = fun _ => none := by funext r; exact hget_h00 r

theorem topK_ok {P : Program} {ent : FuncId → Bool} {n : Nat} {sc : XC} {rs : List Go.Vw.SRes} {y : YT} {g : YT → Fn3} {s : SL} {zs : List Z} (hent : ∀ id, ent id = true → EntersF P id) (hy : YOK P y) (hg : GOK P g) (hn : n ≤ 512) (h : topK ent n sc rs y g s = .ok zs [] []) :
    WX P none n sc (retD P rs fun _ _ zs' => zs' = zs) .clean (absS s m00) := by
  have hb : RR.ok zs [] [] ≠ .bad := by simp
  cases eF : kcode ent false n 1000 sc with
  | mk F =>
    have h : F (.nil (finT rs)) (finT rs) s m00 (.mk y g (fun _ _ _ _ => .bad) .clean) = .ok zs [] [] := by
      unfold topK at h; rw [eF] at h; exact h
    have M0 : MOK (mabs m00) 0 m00 := ⟨rfl, Nat.le_refl _, by show 0 ≤ 4096; omega, fun r _ _ => rfl, fun r hr => absurd (show r ∈ ([] : List Nat) from hr) (by simp), fun r _ => by rw [mabs00]⟩
    refine (kcode_ok (P := P) (n := n) (ro := none) (rd := false) (h0 := mabs m00) (nb := 0) (c := .mk y g (fun _ _ _ _ => .bad) .clean) hent ⟨hy, hg⟩ hb (fun _ => rfl) hn 1000 sc F eF _ _ .clean _ _ h M0).mono ?_
    rintro x d' S ⟨s', m', rfl, M', hx⟩
    have hend : finT rs s' m' (setD d' (.mk y g (fun _ _ _ _ => .bad) .clean)) = .ok zs [] [] → leaveP P rs (fun _ _ zs' => zs' = zs) (.nul .iface) (absS s' m') d' := fun hx => by
      obtain ⟨rfl, hx⟩ := cleanK_inv hx hb
      obtain ⟨zs0, a1, a2⟩ := retsK_inv hx hb
      refine ⟨rfl, ?_⟩
      unfold retP
      rw [a1]
      simp only [RR.ok.injEq] at a2
      exact a2.1
    cases x with
    | normal => exact hend hx
    | ret => exact hend hx
    | exit i => exact absurd (show RR.bad = RR.ok zs [] [] from hx) (by simp)
    | panic chain =>
      obtain ⟨pv, v, _, _, hx⟩ := hx
      exact absurd (show RR.bad = RR.ok zs [] [] from hx) (by simp)
    | _ => exact hx.elim

set_option maxRecDepth 1000000
set_option maxHeartbeats 40000000
-- TopPowers: its code behind the numbers
noncomputable def rest4 : XC := sndX (sndX (sndX (sndX (sndX (codeT (yslimF Tryz.prog Tryz.f4))))))
noncomputable def r4 : {x : XC // rest4 = x} := by
  refine ⟨?a, ?b⟩
  rotate_left
  · conv => lhs; reduce
attribute [local irreducible] cas8 wPick wBin wEqb wNot wNeg wConv wLoad1 wLoad wStore1 wStore wIdx wLen wLenS wIndex wExt wFAddr wField1 wField wMake wMkB wBox wAlloc wMkSl wBuild wMm wSlice wSliceS wAppend wCopy wCall wIsNil wIsNul wChk wIdxA wIdxV wSliceA wNew wPan wGuard aAdd aSub aMul aQuo aRem aAnd aOr aXor aShl aShr aAndNot aEql aNeq aLss aLeq aGtr aGeq sBad sAdd sEql sNeq kSkip kSeq kCond kBlock kLoop kExit kRet kDrawn kDfr kRf kBad noP entK
noncomputable def c4 : {x : CK // @FC.rec (fun _ => CK) (fun f => f) (kcodeV (entK K9) false 96 1000 r4.val) = x} := by
  refine ⟨?a, ?b⟩
  rotate_left
  · conv => lhs; reduce

noncomputable def sT (x y k : Nat) : SL := sput 10 (zJ y) (sput 29 (zJ y) (sput 28 .any (sput 27 .any (sput 9 (zJ x) (sput 26 (zJ x) (sput 25 .any (sput 24 .any (sput 8 (zJ k) (sput 23 (zJ k) (sput 22 .any (sput 21 .any (sput 7 (.b true) (sput 20 (.b true) (sput 6 (.b false) (sput 2 .any (sput 1 .any (sput 0 .any s0)))))))))))))))))
noncomputable def topV (l : List VF) (x y k : Nat) : RR := c4.val (.nil (finT [.tmp 6])) (finT [.tmp 6]) (sT x y k) m00 (.mk (yV l 4) (kV l) (fun _ _ _ _ => .bad) .clean)
theorem topV_eq (l : List VF) (x y k : Nat) : topV l x y k = topK (entK K9) 96 rest4 [.tmp 6] (yV l 4) (kV l) (sT x y k) := by
  unfold topV topK
  rw [← c4.property, kcodeV_eq, show r4.val = rest4 from r4.property.symm]
/-- A case of TopPowers. -/
def TopOK (x y k : Nat) : Prop := WX Tryz.prog none 96 rest4 (retD Tryz.prog [.tmp 6] fun _ _ zs => zs = [.b true]) .clean (absS (sT x y k) m00)
theorem top_of {x y k : Nat} (l : List VF) (h : topV l x y k = .ok [.b true] [] [] := by kernel_rfl) : TopOK x y k :=
  topK_ok (zs := [.b true]) ent9_ok (yV_ok l 4) (kV_ok l) (by decide) ((topV_eq l x y k).symm.trans h)
end Go.Zw
