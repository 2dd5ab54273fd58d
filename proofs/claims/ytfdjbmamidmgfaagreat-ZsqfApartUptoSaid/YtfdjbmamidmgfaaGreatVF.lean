/- A function that collects what another tells into a row of its own. A base for the claims; it names no program. -/
import Derived.Test.YtfdjbmamidmgfaaGreatVE
set_option linter.unusedVariables false
set_option linter.unusedSimpArgs false
namespace Go.Vw
open Go.RowKit (Below)
theorem wpOpIn_value {P : Program} {m i : Nat} {ro : Option Nat} {ops : Array Oper} {o : Oper} {v : Value} {K : Act → World → Prop} {Q : Exit → Act → World → Prop} {a : Act} {w w' : World}
 (hi : ops[i]? = some o) (ho : ∀ c, o.op ≠ .defer c) (hg : o.guard = none) (hr : (execOp a.eval o).run P w = .ok (.value v) w') (h : K (a.put o.dst v) w') : wpOpIn (Fx ro) m P ops Q i K a w := by
 unfold wpOpIn
 simp only [hi]
 rw [if_pos (by simp [Region.wanted, hg])]
 refine ⟨fun f _ => fx_fn ro f, ?_⟩
 rw [Oper.semAt_eq _ _ _ ho, hr]
 exact h
theorem ret_post {P : Program} {n : Nat} {fn : Func} {w w' : World} {ok : Nat → Prop} {S' : St} {a' : Act} {rs : List SRes} {R : List RV → Prop} (ow : List Bool) (how : oneOwn ow = true) (hrs : slimRes P fn.results.toList = some rs)
 (r : RelSt (fun b => ok b ∨ w.heap.size ≤ b) ⟨w, fun _ => none⟩ n S' a' w') (hq : retP rs ow R S') :
 ∃ v, (results fn a'.tmps).run P w' = .ok v w' ∧ ∃ rvs vs, R rvs ∧ Ending.returned v = .returned (packed vs) ∧ Below w.heap.size w w' ∧ RetOK w w' ok rvs vs := by
 have hB0 : ∀ b, (Base.mk w fun _ => none).B b → w.heap.size ≤ b := fun b hb => by
  rcases hb with hb | ⟨_, _, hb, _⟩
  · exact hb
  · cases hb
 obtain ⟨μ, H, rel⟩ := r.ex
 simp only [retP] at hq
 split at hq
 · rename_i c' rvs hall
   obtain ⟨vs, f1, f2, f3⟩ := ret_all (P := P) H rel fn.results.toList rs ow c' rvs hrs hall hq.1
   refine ⟨packed vs, results_run fn a'.tmps f2, rvs, vs, hq.2, rfl, ⟨r.below.os, r.below.tape, r.below.output, r.below.size, fun k hk => r.below.block k fun e => Nat.not_le_of_lt hk (hB0 k e)⟩, ⟨f1, fun j rv hj => ?_, fun j k x y b hj hk hx hy _ _ => ?_⟩⟩
   · obtain ⟨g1, g2⟩ := f3 j rv hj
     have hbig : ∀ b, okOf (fun b => ok b ∨ w.heap.size ≤ b) w' μ S'.h b → okR ok w w' rvs vs b := by
      rintro b ⟨h1, h2, h3⟩
      refine ⟨h1, h2, fun i rv' hi hown hblk => ?_⟩
      obtain ⟨g3, _⟩ := f3 i rv' hi
      cases rv' with
      | pure v => cases hown
      | own T sz xs =>
       obtain ⟨_, g4⟩ := g3.own T sz xs rfl
       obtain ⟨r', hr1, hr2⟩ := g4 b hblk
       exact h3 r' hr1 hr2
     cases rv with
     | pure v =>
      refine (g1.pure v rfl).mono (fun b hb => ?_) fun _ _ _ => rfl
      rcases hb with hb | ⟨hany, hb1, hb2⟩
      · exact hbig b hb
      · refine ⟨.inr (hB0 b hb1), hb2, fun i rv' hi hown => ?_⟩
        obtain ⟨_, g3⟩ := f3 i rv' hi
        rw [hown] at g3
        exfalso
        have : ow.any id = true := by
         rw [List.any_eq_true]
         by_cases hlt : i < ow.length
         · exact ⟨ow[i], List.getElem_mem hlt, by rw [getD_lt _ _ hlt] at g3; exact g3.symm⟩
         · simp [List.getD, List.getElem?_eq_none (Nat.le_of_not_lt hlt)] at g3
        rw [this] at hany; cases hany
     | own T sz xs =>
      exact ((g1.own T sz xs rfl).1.keep hbig (fun _ _ _ => rfl) (fun _ _ => rfl)).lower fun b _ hb => hB0 b hb
   · refine oneOwn_spec how j k ?_ ?_
     · rw [← (f3 j x hj).2]; exact hx
     · rw [← (f3 k y hk).2]; exact hy
 · exact hq.elim
theorem start_rel {n : Nat} {fn : Func} {w : World} {ok : Nat → Prop} {args : List V} {vals : Array Value} (hn : fn.ntmps = n) (hargs : args.length ≤ n) (hok : ∀ b, ok b → b < w.heap.size) (hrel : ArgRel w ok args vals) :
 RelSt (fun b => ok b ∨ w.heap.size ≤ b) ⟨w, fun _ => none⟩ n (S0 args) { tmps := vals ++ Array.replicate (fn.ntmps - vals.size) undef, defers := [] } w := by
 have hB0 : ∀ b, (Base.mk w fun _ => none).B b → w.heap.size ≤ b := fun b hb => by
  rcases hb with hb | ⟨_, _, hb, _⟩
  · exact hb
  · cases hb
 refine ⟨⟨fun _ => undef, ⟨fun r o ho => by simp [S0] at ho, fun r r' b hr => by simp [S0] at hr, fun r v h => by cases h⟩, fun t => ?_⟩, ⟨rfl, rfl, rfl, Nat.le_refl _, fun _ _ => rfl⟩, by simp [hn, hrel.1]; omega, rfl, fun b hb => .inr (hB0 b hb)⟩
 have hmono : ∀ {v : V} {val : Value}, RelV w ok v val → RelV w (okOf (fun b => ok b ∨ w.heap.size ≤ b) w (fun _ => undef) (S0 args).h) v val := fun h =>
  h.mono (fun b hb => ⟨.inl hb, hok b hb, fun r hr => by simp [S0] at hr⟩) fun _ _ _ => rfl
 simp only [S0, argSlot]
 by_cases hlt : t < args.length
 · have := hrel.2 t hlt
   have hs : t < vals.size := by rw [hrel.1]; exact hlt
   rw [List.getElem?_eq_getElem hlt]
   refine .p _ _ (hmono ?_)
   simpa [Array.getD_eq_getD_getElem?, Array.getElem?_append, hs] using this
 · rw [List.getElem?_eq_none (Nat.le_of_not_lt hlt)]
   have hs : ¬ t < vals.size := by rw [hrel.1]; exact hlt
   have : (vals ++ Array.replicate (fn.ntmps - vals.size) undef).getD t undef = undef := by
    rw [Array.getD_eq_getD_getElem?, Array.getElem?_append, if_neg hs, Array.getElem?_replicate]
    split <;> rfl
   rw [this]
   exact .tup _ _ rfl (by simp)
structure CF (P : Program) (fn : Func) (Tb : TypeId) (cA cB cD cas cbd : Code) : Prop where
 ex : ∃ i1 i2 bi oc oe0 oe1 oe2, fn.body = some (.seq cA (.seq cB (.seq (.region i1 #[oc] false) (.seq (.seq cD (.block bi (.rangeFunc (.tmp 14) #[15, 16] cas cbd))) (.seq (.region i2 #[oe0, oe1, oe2] false) .ret))))) ∧
  oc.op = .alloc Tb ∧ oc.guard = none ∧ oc.dst = some 5 ∧ oe0.op = .load Tb (.tmp 5) ∧ oe0.guard = none ∧ oe0.dst = some 23 ∧ oe1.op = .assign (.tmp 23) ∧ oe1.guard = none ∧ oe1.dst = some 2 ∧
  oe2.op = .assign (.const (.int .i64 0)) ∧ oe2.guard = none ∧ oe2.dst = some 3
 n : fn.ntmps = 24
 name : (fn.name == "runtime.NumGoroutine") = false
 res : fn.results = #[.tmp 2, .tmp 3]
 zero : ∃ i, P.info? Tb = some i ∧ i.zero = some (.slice none 0 0)
def boxed (S : St) (D0 : Nat) : St := ⟨fun t => if t = 5 then .raw (.pointer (some ⟨D0, 0, none⟩)) else match S.σ t with | .p v => .p v | _ => .any, fun _ => ⟨0, none⟩⟩
theorem spec_collect {P : Program} {f : FuncId} {fn : Func} {cA cB cD cas cbd : Code} {sA sB sD : SC} {Tb T : TypeId} {sz : Option Nat} {good : V → V → Prop} {part : V → V → V} {args : List V} {xs : List V}
 {gf : FuncId} {gfn : Func} {gc : Code} {gsc : SC} {n' : Nat} {caps : List V} {R : List RV → Prop} {G : Prop} (ow : List Bool) (how : oneOwn ow = true)
 (hf : P.funcs[f]? = some fn) (hC : CF P fn Tb cA cB cD cas cbd) (hA : slimCode P 24 cA = some sA) (hB : slimCode P 24 cB = some sB) (hD : slimCode P 24 cD = some sD) (hargs : args.length ≤ 24)
 (hL : LC P 24 Tb T sz 15 16 6 7 5 17 22 cas cbd good part)
 (hg : P.funcs[gf]? = some gfn) (hgb : gfn.body = some gc) (hgname : (gfn.name == "runtime.NumGoroutine") = false) (hgn : gfn.ntmps = n') (hgsl : slimCode P n' gc = some gsc) (hgres : gfn.results = #[]) (hcn : caps.length + 1 ≤ n')
 (hR : G → R [.own T sz xs, .pure (.i .i64 0)])
 (hwalk : WS P 24 sA (fun e S => e = .normal ∧ WS P 24 sB (fun e S1 => (e = .ret ∧ retP [.tmp 2, .tmp 3] ow R S1) ∨
  (e = .normal ∧ G ∧ ∀ D0, WS P 24 sD (fun e S2 => e = .normal ∧ S2.σ 14 = .p (.clo gf caps) ∧ S2.σ 5 = .raw (.pointer (some ⟨D0, 0, none⟩))) (boxed S1 D0))) S) (S0 args))
 (hit : G → ∀ {A0 : Nat → Prop} {D0 l D : Nat} {w00 : World} {fno : FuncId} {tmps : Array Value} (htm : tmps.size = 24) (htb : tmps.getD 5 undef = .pointer (some ⟨D0, 0, none⟩)) (hA0 : ∀ b, w00.heap.size ≤ b → A0 b),
  WJ (colY (A0 := A0) (fn := fno) (l := l) (D := D) hL htm htb hA0) n' gsc (fun e ys _ => (e = .normal ∨ e = .ret) ∧ ys = xs) [] (SIt l caps)) : Spec P f args R := by
 intro w ok vals hok hrel
 obtain ⟨i1, i2, bi, oc, oe0, oe1, oe2, hb, c1, c2, c3, e1, e2, e3, e4, e5, e6, e7, e8, e9⟩ := hC.ex
 refine .inl ⟨enters_run hf (by rw [hb]; rfl) hC.name vals w, ?_⟩
 refine (callsIn_wide (n := 0)).1 (callsIn_of_wp_marks hf hb trivial ?_)
 have hR0 := start_rel (n := 24) hC.n hargs hok hrel
 refine wpIn_seq (wpIn_wide.2 (wp_mono (hwalk _ hA _ _ _ _ hR0) ?_))
 rintro e a1 w1 ⟨S1, ⟨rfl, hwB⟩, r1⟩
 simp only [Exit.then]
 refine wpIn_seq (wpIn_wide.2 (wp_mono (hwB _ hB _ _ _ _ r1) ?_))
 rintro e a2 w2 ⟨S2, hq, r2⟩
 rcases hq with ⟨rfl, hq⟩ | ⟨rfl, hG, hwD⟩
 · simp only [Exit.then]
   obtain ⟨v, hv, rvs, vs, h1, h2, h3, h4⟩ := ret_post (fn := fn) ow how (by rw [hC.res]; rfl) r2 hq
   simp only [bodyPostM, r2.defers]
   exact ⟨v, hv, rvs, vs, h1, h2, h3, h4⟩
 simp only [Exit.then]
 obtain ⟨ti, hti, htz⟩ := hC.zero
 refine wpIn_seq (wpIn_region ?_)
 show wpOpsIn Fence.wide 0 P #[oc] _ [0] a2 w2
 rw [wpOpsIn_cons]
 have hrun : (execOp a2.eval oc).run P w2 = .ok (.value (.pointer (some ⟨w2.heap.size, 0, none⟩))) (w2.alloc (.cells #[.slice none 0 0] Tb (0, 0))) := by
  simp [execOp, c1, Instr.alloc, run_zero hti htz, newVar, newRow, Value.cells]
 refine wpOpIn_value (ro := none) (o := oc) rfl (by rw [c1]; intro c hc; cases hc) c2 hrun ?_
 rw [c3]
 simp only [wpOpsIn]
 obtain ⟨D0, hD0⟩ : ∃ D0, D0 = w2.heap.size := ⟨_, rfl⟩
 rw [← hD0]
 obtain ⟨w3, hw3⟩ : ∃ w3, w3 = w2.alloc (.cells #[.slice none 0 0] Tb (0, 0)) := ⟨_, rfl⟩
 rw [← hw3]
 have hlow2 : Below w.heap.size w w2 := below_of rfl r2.below
 have hb23 : Below w2.heap.size w2 w3 := by rw [hw3]; exact (Below.refl _ w2).alloc (Nat.le_refl _) _
 have hs3 : w3.heap.size = D0 + 1 := by rw [hw3, hD0]; simp
 have hbox3 : w3.heap[D0]? = some (.cells #[.slice none 0 0] Tb (0, 0)) := by rw [hw3, hD0]; exact World.alloc_heap_new _ _
 have hD0l : w.heap.size ≤ D0 := by rw [hD0]; exact hlow2.size
 have r3 : RelSt (fun b => (ok b ∨ w.heap.size ≤ b) ∧ b ≠ D0) ⟨w3, fun _ => none⟩ 24 (boxed S2 D0) (a2.put (some 5) (.pointer (some ⟨D0, 0, none⟩))) w3 := by
  obtain ⟨μ, H, rel⟩ := r2.ex
  refine ⟨⟨fun _ => undef, ⟨fun r o ho => by simp [boxed] at ho, fun r r' b hr => by simp [boxed] at hr, fun r v h => by cases h⟩, fun t => ?_⟩, ⟨rfl, rfl, rfl, Nat.le_refl _, fun _ _ => rfl⟩, by simpa [Act.put] using r2.size, r2.defers, fun b hb => ?_⟩
  · simp only [boxed, Act.put]
    rw [getD_put _ _ _ _ (by rw [r2.size]; omega)]
    split
    · exact .raw _
    · have ht := rel t
      generalize S2.σ t = x, a2.tmps.getD t undef = y at ht ⊢
      cases ht with
      | p v val hv => exact .p _ _ (hv.mono (fun b hb => ⟨⟨hb.1, by have := hb.2.1; omega⟩, by have := hb.2.1; omega, fun r hr => absurd rfl hr⟩) fun b o hb => cell?_of_heap (hb23.block b hb.2.1) o)
      | _ => exact .any _
  · rcases hb with hb | ⟨_, _, hb, _⟩
    · have : D0 + 1 ≤ b := by rw [← hs3]; exact hb
      exact ⟨.inr (by omega), by omega⟩
    · cases hb
 refine wpIn_seq (wpIn_seq (wpIn_wide.2 (wp_mono (hwD D0 _ hD _ _ _ _ r3) ?_)))
 rintro e a4 w4 ⟨S4, ⟨rfl, s14, s5⟩, r4⟩
 simp only [Exit.then]
 have hb34 : Below w3.heap.size w3 w4 := below_of rfl r4.below
 obtain ⟨μ, H, rel⟩ := r4.ex
 have hlow4 : Below w.heap.size w w4 := (hlow2.trans (hb23.mono hlow2.size)).trans (hb34.mono (by omega))
 obtain ⟨lb, hlb, hlbr⟩ : ∃ lb, a4.tmps.getD 14 undef = .func (.func gf) #[] lb ∧ ArgRel w4 (okOf (fun b => (ok b ∨ w.heap.size ≤ b) ∧ b ≠ D0) w4 μ S4.h) caps lb := by
  have := rel 14
  rw [s14] at this
  generalize a4.tmps.getD 14 undef = x at this
  cases this with
  | p v val hv =>
   cases hv with
   | clo f caps vals hlen hrel => exact ⟨vals, rfl, hlen, hrel⟩
 have htb : a4.tmps.getD 5 undef = .pointer (some ⟨D0, 0, none⟩) := by
  have := rel 5
  rw [s5] at this
  generalize a4.tmps.getD 5 undef = x at this
  cases this
  rfl
 refine wpIn_block ?_
 refine range_collect (A0 := fun b => ok b ∨ w.heap.size ≤ b) (w00 := w) (F := (· = xs)) hL r4.size htb (fun b hb => .inr hb) ((hb34.block D0 (by omega)).trans hbox3) hlow4 hD0l hlb hg hgb hgname hgn hgsl hgres hlbr (fun b hb => ⟨hb.2.1, hb.1.2, hb.1.1⟩) hcn (fun fno l D => hit hG _ _ _) ?_
 rintro D l lp ys W rfl hCol
 simp only [Exit.inBlock, Exit.then]
 obtain ⟨v, flat, O, k1, k2, k3, k4⟩ := hCol.ex
 have hv1 : v.oneCell' = true := by
  rcases k2.2 with ⟨rfl, _⟩ | ⟨g, cap, cur, rfl, _⟩ <;> rfl
 have hcell : W.rangeAt D0 0 v.cells.toList := by
  have hc : v.cells.toList = [v] := by cases v <;> simp_all [Value.oneCell', Value.cells]
  refine rangeAt_of_row k1 0 _ fun i c hi => ?_
  rw [hc] at hi
  simpa using hi
 have hload : (execOp ({ a4 with defers := { target := .collected D, args := #[] } :: a4.defers } : Act).eval oe0).run P W = .ok (.value v) W := by
  have e : ({ a4 with defers := { target := .collected D, args := #[] } :: a4.defers } : Act).eval (.tmp 5) = .pointer (some ⟨D0, 0, none⟩) := htb
  rw [execOp, e1]
  simp only [e]
  simp [run_loadAt_rel hL.hTb (val := v) hv1 hcell]
 refine wpIn_seq (wpIn_region ?_)
 show wpOpsIn Fence.wide 0 P #[oe0, oe1, oe2] _ [0, 1, 2] _ W
 rw [wpOpsIn_cons]
 refine wpOpIn_value (ro := none) (o := oe0) rfl (by rw [e1]; intro c hc; cases hc) e2 hload ?_
 rw [wpOpsIn_cons]
 refine wpOpIn_assign (ro := none) (o := oe1) rfl e4 e5 ?_
 rw [wpOpsIn_cons]
 refine wpOpIn_assign (ro := none) (o := oe2) rfl e7 e8 ?_
 simp only [wpOpsIn, e3, e6, e9, Exit.then]
 refine wpIn_ret ?_
 simp only [bodyPostM]
 have hs24 : a4.tmps.size = 24 := r4.size
 have t2 : (((a4.tmps.setIfInBounds 23 v).setIfInBounds 2 v).setIfInBounds 3 (.int .i64 0)).getD 2 undef = v := by
  rw [getD_put _ _ _ _ (by simp [hs24]), if_neg (by decide), getD_put _ _ _ _ (by simp [hs24]), if_pos rfl]
 have t3 : (((a4.tmps.setIfInBounds 23 v).setIfInBounds 2 v).setIfInBounds 3 (.int .i64 0)).getD 3 undef = .int .i64 0 := by
  rw [getD_put _ _ _ _ (by simp [hs24]), if_pos rfl]
 have t23 : (a4.tmps.setIfInBounds 23 v).getD 23 undef = v := by rw [getD_put _ _ _ _ (by simp [hs24]), if_pos rfl]
 show LeavesInM Fence.wide 0 P fn (((a4.tmps.setIfInBounds 23 v).setIfInBounds 2 ((a4.tmps.setIfInBounds 23 v).getD 23 undef)).setIfInBounds 3 (.int .i64 0)) _ ({ target := .collected D, args := #[] } :: a4.defers) .returning W
 rw [t23, r4.defers]
 refine ⟨by simp, .inl ⟨D, W.putObj D (.deferred none), rfl, run_takeDeferred hCol.fin, ?_⟩⟩
 have lD := (Array.getElem?_eq_some_iff.1 hCol.fin).1
 have l0 := (Array.getElem?_eq_some_iff.1 k1).1
 have oth : ∀ k, k ≠ D → (W.putObj D (.deferred none)).heap[k]? = W.heap[k]? := fun k hk => World.putObj_heap_other hk
 refine ⟨packed [v, .int .i64 0], results_run fn _ ?_, _, [v, .int .i64 0], hR hG, rfl, ?_, ⟨rfl, fun j rv hj => ?_, fun j k x y b hj hk hx hy _ _ => ?_⟩⟩
 · rw [hC.res]
   simp [resRun, t2, t3]
 · exact ⟨hCol.low.os, hCol.low.tape, hCol.low.output, by simpa using hCol.low.size, fun k hk => (oth k (by have := hCol.df; omega)).trans (hCol.low.block k hk)⟩
 · match j, hj with
   | 0, hj =>
    simp only [List.getElem?_cons_zero, Option.some.injEq] at hj
    subst hj
    refine ⟨flat, ?_, k3.mono (fun b hb => ?_) fun b o hb => ?_⟩
    · have h5 := owns_mono (B' := fun b => w.heap.size ≤ b ∧ b ≠ D) k2 fun b _ hb => ⟨hb.1, hb.2.2.2⟩
      have h6 := ownsRow_heap (fun b hb => oth b (owns_blk h5 hb).1.2) h5
      exact owns_mono h6 fun b _ hb => hb.1
    · obtain ⟨m1, m2, m3, m4⟩ := k4 b hb
      refine ⟨m4, by simpa using m1, fun i rv' hi hown => ?_⟩
      match i, hi with
      | 0, hi => exact m3
      | 1, hi =>
       simp only [List.getElem?_cons_succ, List.getElem?_cons_zero, Option.some.injEq] at hi
       subst hi
       cases hown
      | i + 2, hi => simp at hi
    · by_cases e : b = D
      · subst e
        simp only [World.cell?, World.putObj_heap_same lD, hCol.fin]
      · exact cell?_of_heap (oth b e) o
   | 1, hj =>
    simp only [List.getElem?_cons_succ, List.getElem?_cons_zero, Option.some.injEq] at hj
    subst hj
    exact .i _ _
   | j + 2, hj => simp at hj
 · have own0 : ∀ i z, ([RV.own T sz ys, RV.pure (.i .i64 0)] : List RV)[i]? = some z → z.isOwn = true → i = 0 := fun i z hi hz => by
    match i, hi with
    | 0, _ => rfl
    | 1, hi =>
     simp only [List.getElem?_cons_succ, List.getElem?_cons_zero, Option.some.injEq] at hi
     subst hi
     cases hz
    | i + 2, hi => simp at hi
   rw [own0 j x hj hx, own0 k y hk hy]
end Go.Vw
