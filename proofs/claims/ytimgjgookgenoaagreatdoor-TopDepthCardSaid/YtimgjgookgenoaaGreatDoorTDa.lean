/- TopDepth: its code behind the making of its number, reckoned. -/
import Derived.Test.YtimgjgookgenoaaGreatDoorEA
import Derived.Test.YtimgjgookgenoaaGreatDoorSA
import Derived.Test.YtimgjgookgenoaaGreatDoorFA6
set_option linter.unusedVariables false
set_option linter.unusedSimpArgs false
set_option linter.unusedSectionVars false
namespace Go.Zw

/-- Slots of which less is told. -/
theorem WX.weak {P : Program} {ro : Option Nat} {n : Nat} {Q : Exit → DZ → ZS → Prop} {d : DZ} {S S' : ZS} {sc : XC} (h : WX P ro n sc Q d S') (h1 : ∀ t, S'.σ t = S.σ t ∨ S'.σ t = .any) (h2 : S'.h = S.h) (h3 : S'.nx = S.nx) : WX P ro n sc Q d S := by
  intro m c hc w0 a w hR
  refine h m c hc w0 a w ?_
  obtain ⟨w1, E, R⟩ := hR
  obtain ⟨μ, H, rel⟩ := R.ex
  refine ⟨w1, E, ⟨μ, by rw [h2, h3]; exact H, fun t => ?_⟩, R.below, R.size, R.defers⟩
  rcases h1 t with e | e
  · rw [e, h3]; exact rel t
  · rw [e]; exact .any _

noncomputable def fstX (c : XC) : XC := @XC.rec (fun _ => XC) .no (fun a _ _ _ => a) (fun _ => .no) (fun _ _ => .no) (fun _ _ _ _ _ _ => .no) (fun _ _ => .no) (fun _ _ _ _ _ => .no) (fun _ _ _ => .no) (fun _ _ => .no) (fun _ _ => .no) (fun _ => .no) .no .no c
noncomputable def sndX (c : XC) : XC := @XC.rec (fun _ => XC) .no (fun _ b _ _ => b) (fun _ => .no) (fun _ _ => .no) (fun _ _ _ _ _ _ => .no) (fun _ _ => .no) (fun _ _ _ _ _ => .no) (fun _ _ _ => .no) (fun _ _ => .no) (fun _ _ => .no) (fun _ => .no) .no .no c
noncomputable def codeT (t : Option T3) : XC := @Option.rec T3 (fun _ => XC) .no (fun t => t.2.1) t
/-- An end that hands out the results alone. -/
noncomputable def finT (rs : List Go.Vw.SRes) : Kont := fun s m c => cleanK c (retsK rs s m fun zs => .ok zs [] [])
noncomputable def m00 : Mem := .mk h00 0 0 []
noncomputable def topK (ent : FuncId → Bool) (n : Nat) (sc : XC) (rs : List Go.Vw.SRes) (y : YT) (g : YT → Fn3) (s : SL) : RR := @FC.rec (fun _ => RR) (fun F => F (.nil (finT rs)) (finT rs) s m00 (.mk y g (fun _ _ _ _ => .bad) .clean)) (kcode ent false n 1000 sc)
theorem mabs00 : mabs m00 = fun _ => none := by funext r; exact hget_h00 r

theorem topK_ok {P : Program} {ent : FuncId → Bool} {n : Nat} {sc : XC} {rs : List Go.Vw.SRes} {y : YT} {g : YT → Fn3} {s : SL} {zs : List Z} (hent : ∀ id, ent id = true → EntersF P id) (hy : YOK P y) (hg : GOK P g) (hn : n ≤ 512) (h : topK ent n sc rs y g s = .ok zs [] []) :
    WX P none n sc (retD P rs fun _ _ zs' => zs' = zs) .clean (absS s m00) := by
  have hb : RR.ok zs [] [] ≠ .bad := by simp
  cases eF : kcode ent false n 1000 sc with
  | mk F =>
    have h : F (.nil (finT rs)) (finT rs) s m00 (.mk y g (fun _ _ _ _ => .bad) .clean) = .ok zs [] [] := by
      unfold topK at h; rw [eF] at h; exact h
    have M0 : MOK (mabs m00) 0 m00 := ⟨rfl, Nat.le_refl _, by show 0 ≤ 4096; omega, fun r _ _ => rfl, fun r hr => absurd (show r ∈ ([] : List Nat) from hr) (by simp), fun r _ => by rw [mabs00]⟩
    refine (kcode_ok (P := P) (n := n) (ro := none) (rd := false) (h0 := mabs m00) (nb := 0) (c := .mk y g (fun _ _ _ _ => .bad) .clean) hent ⟨hy, hg⟩ hb (fun _ => rfl) hn 1000 sc F eF _ _ .clean _ _ h M0).mono ?_
    rintro x d' S ⟨s', m', rfl, M', hx⟩
    have hend : finT rs s' m' (setD d' (.mk y g (fun _ _ _ _ => .bad) .clean)) = .ok zs [] [] → leaveP P rs (fun _ _ zs' => zs' = zs) (.nul .iface) (absS s' m') d' := fun hx => by
      obtain ⟨rfl, hx⟩ := cleanK_inv hx hb
      obtain ⟨zs0, a1, a2⟩ := retsK_inv hx hb
      refine ⟨rfl, ?_⟩
      unfold retP
      rw [a1]
      simp only [RR.ok.injEq] at a2
      exact a2.1
    cases x with
    | normal => exact hend hx
    | ret => exact hend hx
    | exit i => exact absurd (show RR.bad = RR.ok zs [] [] from hx) (by simp)
    | panic chain =>
      obtain ⟨pv, v, _, _, hx⟩ := hx
      exact absurd (show RR.bad = RR.ok zs [] [] from hx) (by simp)
    | _ => exact hx.elim
end Go.Zw

namespace Go.Proofs.YtimgjgookgenoaaGreatDoor
open Go Go.Zw
open Go.Vw (SRes SX SO V)
set_option maxRecDepth 1000000
noncomputable def d1 : Fact := .mk [(.ob 368 true [.nil,(zJ 4096),(zJ 0),zF]),(.ob 156 true [(zB 43),.nil,(zB 0),(zJ 0),(.ptr 2 0),(.ptr 3 0)]),(.ob 156 true [(zB 118),.nil,(zB 120),(zJ 0),(.nul .ptr),(.nul .ptr)]),(.ob 156 true [(zB 110),(.sl 4 0 1 1),(zB 0),(zJ 0),(.nul .ptr),(.nul .ptr)]),(.ob 68 false [(zU 1),(zU 0)])] [(.ptr 0 0),(.ptr 1 0)] [] [(0,some (.ob 368 true [(.sl 5 0 3 1),(zJ 4093),(zJ 0),zF]))] [(.ob 5 false [(zB 120),(zB 43),(zB 49)])]
noncomputable def d2 : Fact := .mk [] [(zJ 1),(zJ 0)] [(.sl 0 0 1 3),(zJ 0)] [] [(.ob 152 false [zF,(.sl 1 0 1 1),(.sl 2 0 1 1)]),(.ob 68 false [(zU 1)]),(.ob 3 false [(zJ 1)])]
noncomputable def d3 : Fact := .mk [(.ob 68 false [(zU 1)]),(.ob 68 false [(zU 1)])] [(.agg [zF,(.sl 0 0 1 1)]),(.agg [zF,(.sl 1 0 1 1)])] [(.agg [zF,(.sl 2 0 1 1)])] [] [(.ob 68 false [(zU 1)])]
noncomputable def d4 : Fact := .mk [(.ob 68 false [(zU 1)]),(.ob 68 false [(zU 1)])] [(.agg [zF,(.sl 0 0 1 1)]),(.agg [zF,(.sl 1 0 1 1)])] [(.agg [zF,(.sl 2 0 1 1)]),(.agg [zF,(.sl 3 0 0 1)]),(zJ 0)] [] [(.ob 68 false [(zU 1)]),(.ob 68 true [])]
noncomputable def d5 : Fact := .mk [(.ob 68 false [(zU 1)])] [(zJ 1),(.agg [zF,(.sl 0 0 1 1)])] [(.sl 1 0 1 3),(zJ 0)] [] [(.ob 152 false [zF,(.sl 2 0 1 1),(.sl 3 0 1 1)]),(.ob 68 false [(zU 1)]),(.ob 3 false [(zJ 0)])]
noncomputable def d6 : Fact := .mk [(.ob 68 false [(zU 1)]),(.ob 68 false [(zU 1)])] [(.sl 0 0 1 1),(.sl 1 0 1 1)] [(.sl 2 0 1 1)] [] [(.ob 68 true [(zU 1),(zU 0),(zU 0)])]
noncomputable def d7 : Fact := .mk [(.ob 152 true [zF,(.sl 1 0 1 1),(.sl 2 0 1 1)]),(.ob 68 false [(zU 1)]),(.ob 3 false [(zJ 1)]),(.ob 152 true [zF,(.sl 4 0 1 1),(.sl 5 0 1 1)]),(.ob 68 false [(zU 1)]),(.ob 3 false [(zJ 0)])] [(zJ 1),(.sl 0 0 1 3),(.sl 3 0 1 3),(zJ 1)] [(.sl 6 0 2 3),(zJ 0)] [] [(.ob 152 false [zF,(.sl 7 0 1 1),(.sl 8 0 1 1),zF,(.sl 9 0 1 1),(.sl 10 0 1 1)]),(.ob 68 false [(zU 1)]),(.ob 3 false [(zJ 1)]),(.ob 68 false [(zU 1)]),(.ob 3 false [(zJ 0)])]
noncomputable def d8 : Fact := .mk [(.ob 68 true [(zU 1),(zU 0),(zU 0)]),(.ob 68 false [(zU 1)])] [(.agg [zF,(.sl 0 0 1 1)]),(.agg [zF,(.sl 1 0 1 1)])] [(.agg [zF,(.sl 2 0 1 1)]),(.agg [zF,(.sl 3 0 0 1)]),(zJ 0)] [] [(.ob 68 false [(zU 1)]),(.ob 68 true [])]
noncomputable def d23 : Fact := .mk [(.ob 68 false [(zU 1)]),(.ob 68 true [(zU 1)])] [(.agg [zF,(.sl 0 0 1 1)]),(.agg [zF,(.sl 1 0 1 1)])] [(.agg [zF,(.sl 2 0 1 1),(.sl 3 0 1 1)]),(zJ 0)] [] [(.ob 68 false [(zU 1)]),(.ob 68 false [(zU 1)])]
noncomputable def d24 : Fact := .mk [(.ob 68 false [(zU 1)]),(.ob 68 false [(zU 1)])] [(.agg [zF,(.sl 0 0 1 1)]),(.agg [zF,(.sl 1 0 1 1)])] [(.agg [zF,(.sl 2 0 1 1),(.sl 3 0 1 1)]),(zJ 0)] [] [(.ob 68 false [(zU 1)]),(.ob 68 false [(zU 1)])]
noncomputable def d25 : Fact := .mk [(.ob 68 false [(zU 1)]),(.ob 68 false [(zU 1)])] [(.agg [zF,(.sl 0 0 1 1),(.sl 1 0 1 1)])] [(zS [49])] [] []
noncomputable def d26 : Fact := .mk [(.ob 166 true [(.nul .ptr),.nil]),(.ob 68 false [(zU 1)]),(.ob 68 false [(zU 1)]),(.ob 5 false [(zB 120)]),(.ob 3 false [(zJ 1)])] [(.ptr 0 0),(.agg [zF,(.sl 1 0 1 1),(.sl 2 0 1 1)]),(.sl 3 0 1 1),(.sl 4 0 1 1)] [] [(0,some (.ob 166 true [(.ptr 0 0),(.sl 5 0 1 1)]))] [(.ob 5 false [(zB 120)])]
noncomputable def d27 : Fact := .mk [(.ob 166 true [(.ptr 0 0),(.sl 1 0 1 1)]),(.ob 5 false [(zB 120)]),(.ob 68 false [(zU 1)]),(.ob 68 false [(zU 1)]),(.ob 5 false [(zB 120)]),(.ob 3 false [(zJ 0)])] [(.ptr 0 0),(.agg [zF,(.sl 2 0 1 1),(.sl 3 0 1 1)]),(.sl 4 0 1 1),(.sl 5 0 1 1)] [] [(1,none),(0,some (.ob 166 true [(.ptr 0 0),(.sl 6 0 5 1)]))] [(.ob 5 false [(zB 120),(zB 32),(zB 43),(zB 32),(zB 49)])]
theorem gd : chk [] [(246, d1), (168, d2), (10, d3), (28, d4), (165, d5), (68, d6), (252, d7), (28, d8), (48, d23), (48, d24), (49, d25), (91, d26), (91, d27)] = true := by kernel_rfl
theorem qd : allOK Tryz.prog [(246, d1), (168, d2), (10, d3), (28, d4), (165, d5), (68, d6), (252, d7), (28, d8), (48, d23), (48, d24), (49, d25), (91, d26), (91, d27)] := chk_ok (deps := []) trivial gd
noncomputable def depT : List (Nat × List Fact) := [(47, [f332]), (246, [d1]), (168, [d2]), (10, [d3]), (28, [d4, d8]), (165, [d5]), (68, [d6]), (252, [d7]), (48, [d23, d24]), (49, [d25]), (91, [d26, d27])]
theorem depT_ok : depsOK Tryz.prog depT := ⟨⟨o332, trivial⟩, ⟨qd.1, trivial⟩, ⟨qd.2.1, trivial⟩, ⟨qd.2.2.1, trivial⟩, ⟨qd.2.2.2.1, qd.2.2.2.2.2.2.2.1, trivial⟩, ⟨qd.2.2.2.2.1, trivial⟩, ⟨qd.2.2.2.2.2.1, trivial⟩, ⟨qd.2.2.2.2.2.2.1, trivial⟩, ⟨qd.2.2.2.2.2.2.2.2.1, qd.2.2.2.2.2.2.2.2.2.1, trivial⟩, ⟨qd.2.2.2.2.2.2.2.2.2.2.1, trivial⟩, ⟨qd.2.2.2.2.2.2.2.2.2.2.2.1, qd.2.2.2.2.2.2.2.2.2.2.2.2.1, trivial⟩, trivial⟩

noncomputable def kT : YT → Fn3 := kfun (conAs (conM (fsL depT) con9)) tab9 dtab9 1000 400
theorem kT_ok : GOK Tryz.prog kT := kfun_ok (conAs_ok (conM_ok (fsL_ok depT_ok) con9_ok)) tab9_ok dtab9_ok 400
noncomputable def rest3 : XC := sndX (sndX (sndX (codeT (tab9 3))))
noncomputable def sT (k : Nat) : SL := sput 4 (zJ k) (sput 16 (zJ k) (sput 15 .any (sput 3 (.b true) (sput 14 (.b true) (sput 2 (.b false) (sput 0 .any s0))))))
noncomputable def topR (k : Nat) : RR := topK (entT tab9) 75 rest3 [.tmp 2] noY kT (sT k)
end Go.Proofs.YtimgjgookgenoaaGreatDoor
