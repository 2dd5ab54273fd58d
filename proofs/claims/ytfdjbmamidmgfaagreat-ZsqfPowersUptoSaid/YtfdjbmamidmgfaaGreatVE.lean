/- A round of a loop over a function with two variables, whose body lays them at a row's end; the loop itself. A base for the claims; it names no program. -/
import Derived.Test.YtfdjbmamidmgfaaGreatVD
set_option linter.unusedVariables false
set_option linter.unusedSimpArgs false
namespace Go.Vw
open Go.RowKit (Below)
theorem wpOpIn_assign {P : Program} {m i : Nat} {ro : Option Nat} {ops : Array Oper} {o : Oper} {x : Operand} {K : Act → World → Prop} {Q : Exit → Act → World → Prop} {a : Act} {w : World}
 (hi : ops[i]? = some o) (ho : o.op = .assign x) (hg : o.guard = none) (h : K (a.put o.dst (a.eval x)) w) : wpOpIn (Fx ro) m P ops Q i K a w := by
 unfold wpOpIn
 simp only [hi]
 rw [if_pos (by simp [Region.wanted, hg])]
 refine ⟨fun f _ => fx_fn ro f, ?_⟩
 rw [Oper.semAt_eq _ _ _ (by rw [ho]; intro c hc; cases hc)]
 have : (execOp a.eval o).run P w = .ok (.value (a.eval x)) w := by rw [execOp, ho]; simp
 rw [this]
 exact h
theorem wpIn_assign {P : Program} {m id : Nat} {ro : Option Nat} {o : Oper} {x : Operand} {Q : Exit → Act → World → Prop} {a : Act} {w : World}
 (ho : o.op = .assign x) (hg : o.guard = none) (h : Q .normal (a.put o.dst (a.eval x)) w) : (Code.region id #[o] false).wpIn (Fx ro) m P Q a w := by
 refine wpIn_region ?_
 show wpOpsIn (Fx ro) m P #[o] Q (List.range 1) a w
 rw [show List.range 1 = [0] from rfl, wpOpsIn_cons]
 exact wpOpIn_assign rfl ho hg h
def lrec (fn : FuncId) (tmps : Array Value) (ps : Array Tmp) (as bd : Code) (D : Nat) (st : LoopState) : Loop := { state := st, pending := none, fn := fn, tmps := tmps, params := ps, assign := as, body := bd, defers := D }
structure LC (P : Program) (n : Nat) (Tb T : TypeId) (sz : Option Nat) (pa pb qa qb tb tl tv : Nat) (as bd : Code) (good : V → V → Prop) (part : V → V → V) : Prop where
 as : ∃ ia ib oa ob, as = .seq (.region ia #[oa] false) (.region ib #[ob] false) ∧ oa.op = .assign (.tmp pa) ∧ oa.guard = none ∧ oa.dst = some qa ∧ ob.op = .assign (.tmp pb) ∧ ob.guard = none ∧ ob.dst = some qb
 bd : ∃ ic id ops o0 mid oZ smid, bd = .block ic (.region id ops false) ∧ ops.toList = o0 :: (mid ++ [oZ]) ∧ o0.op = .load Tb (.tmp tb) ∧ o0.guard = none ∧ o0.dst = some tl ∧ oZ.op = .store Tb (.tmp tb) (.tmp tv) ∧ oZ.guard = none ∧ oZ.dst = none ∧ slimL P n ops mid = some smid ∧
  ∀ (D0 : Nat) (xs : List V) (v0 v1 : V), xs.length ≤ 2 ^ 20 → good v0 v1 → RunL P [] (fun S' => S'.σ tb = .raw (.pointer (some ⟨D0, 0, none⟩)) ∧ ∃ g', S'.σ tv = .own 1 g' 0 (xs.length + 1) ∧ S'.h 1 = ⟨g', some (.arr T sz (xs ++ [part v0 v1]))⟩) smid
   ⟨upd (fun t => if t = tb then .raw (.pointer (some ⟨D0, 0, none⟩)) else if t = qa then .p v0 else if t = qb then .p v1 else .any) tl (.own 1 0 0 xs.length), fun r => if r = 1 then ⟨0, some (.arr T sz xs)⟩ else ⟨0, none⟩⟩
 hTb : szOf P Tb = some none
 hsz : 0 < width sz
 lt : pa < n ∧ pb < n ∧ qa < n ∧ qb < n ∧ tb < n ∧ tl < n
 ne : tb ≠ pa ∧ tb ≠ pb ∧ tb ≠ qa ∧ tb ≠ qb ∧ pa ≠ pb ∧ qa ≠ pb ∧ qa ≠ qb
section
variable {P : Program} {n : Nat} {A0 : Nat → Prop} {Tb T : TypeId} {sz : Option Nat} {pa pb qa qb tb tl tv : Nat} {as bd : Code} {good : V → V → Prop} {part : V → V → V} {D0 l D : Nat} {w00 : World} {fn : FuncId} {tmps : Array Value}
theorem col_yield (hL : LC P n Tb T sz pa pb qa qb tb tl tv as bd good part) (htm : tmps.size = n) (htb : tmps.getD tb undef = .pointer (some ⟨D0, 0, none⟩)) (hA0 : ∀ b, w00.heap.size ≤ b → A0 b)
 {xs : List V} {W : World} (hlen : xs.length ≤ 2 ^ 20) (hC : Col A0 Tb T sz D0 l D w00 (lrec fn tmps #[pa, pb] as bd D .ready) xs W) {ok : Nat → Prop} {v0 v1 : V} {vals : Array Value}
 (hok : ∀ b, ok b → b < W.heap.size ∧ ¬ ColT Tb D0 W b ∧ A0 b) (hargs : ArgRel W ok [v0, v1] vals) (hgood : good v0 v1) (m : Nat) :
 YieldAt Fence.wide m P l vals W fun e W' => e = .returned (.bool true) ∧ Col A0 Tb T sz D0 l D w00 (lrec fn tmps #[pa, pb] as bd D .ready) (xs ++ [part v0 v1]) W' ∧ W.heap.size ≤ W'.heap.size ∧
  (∀ k, k < W.heap.size → ¬ ColT Tb D0 W k → W'.heap[k]? = W.heap[k]?) ∧ ∀ b, ColT Tb D0 W' b → ColT Tb D0 W b ∨ W.heap.size ≤ b := by
 obtain ⟨ia, ib, oa, ob, rfl, oa1, oa2, oa3, ob1, ob2, ob3⟩ := hL.as
 obtain ⟨ic, id, ops, o0, mid, oZ, smid, rfl, b1, b2, b3, b4, b5, b6, b7, b8, b9⟩ := hL.bd
 obtain ⟨hs2, hr⟩ := hargs
 obtain ⟨x0, x1, rfl⟩ : ∃ x0 x1, vals = #[x0, x1] := by
  refine ⟨vals[0]'(by simp at hs2; omega), vals[1]'(by simp at hs2; omega), ?_⟩
  apply Array.ext
  · simpa using hs2
  · intro i h1 h2
    have : i = 0 ∨ i = 1 := by simp at h2; omega
    rcases this with rfl | rfl <;> rfl
 have r0 : RelV W ok v0 x0 := by simpa using hr 0 (by simp)
 have r1 : RelV W ok v1 x1 := by simpa using hr 1 (by simp)
 obtain ⟨l1, l2, l3, l4, l5, l6⟩ := hL.lt
 obtain ⟨n1, n2, n3, n4, n5, n6, n7⟩ := hL.ne
 have hy := run_yield (P := P) (args := #[x0, x1]) hC.lp (by simp [lrec])
 refine ⟨_, _, _, _, hy, roundIn_of_wpIn trivial ?_⟩
 have ll := (Array.getElem?_eq_some_iff.1 hC.lp).1
 obtain ⟨t0, ht0⟩ : ∃ t0, t0 = ((#[pa, pb].zip #[x0, x1]).foldl (fun (t : Array Value) (p : Nat × Value) => t.setIfInBounds p.1 p.2) tmps) := ⟨_, rfl⟩
 have e0 : t0 = (tmps.setIfInBounds pa x0).setIfInBounds pb x1 := by rw [ht0]; simp [Array.zip, Array.zipWith, Array.zipWithMAux]
 have s0 : t0.size = n := by rw [e0]; simpa using htm
 have g0 : ∀ t, t0.getD t undef = if t = pb then x1 else if t = pa then x0 else tmps.getD t undef := fun t => by
  rw [e0, getD_put _ _ _ _ (by simpa [htm] using l2)]
  split
  · rfl
  · exact getD_put _ _ _ _ (by rw [htm]; exact l1)
 have hbusy := run_beginRound (P := P) hC.lp rfl
 have main : (Code.block ic (.region id ops false)).wpIn (Fence.wide.inRound l) m P (roundPost P l fun e W' => e = .returned (.bool true) ∧ Col A0 Tb T sz D0 l D w00 (lrec fn tmps #[pa, pb] (.seq (.region ia #[oa] false) (.region ib #[ob] false)) (.block ic (.region id ops false)) D .ready) (xs ++ [part v0 v1]) W' ∧ W.heap.size ≤ W'.heap.size ∧
  (∀ k, k < W.heap.size → ¬ ColT Tb D0 W k → W'.heap[k]? = W.heap[k]?) ∧ ∀ b, ColT Tb D0 W' b → ColT Tb D0 W b ∨ W.heap.size ≤ b)
  { tmps := (t0.setIfInBounds qa x0).setIfInBounds qb x1, defers := [] } (W.putObj l (.loop { lrec fn tmps #[pa, pb] (.seq (.region ia #[oa] false) (.region ib #[ob] false)) (.block ic (.region id ops false)) D .ready with state := .busy })) := by
  have hC2 := hC.putRec { lrec fn tmps #[pa, pb] (.seq (.region ia #[oa] false) (.region ib #[ob] false)) (.block ic (.region id ops false)) D .ready with state := .busy }
  have hT2 := ColT_put hC { lrec fn tmps #[pa, pb] (.seq (.region ia #[oa] false) (.region ib #[ob] false)) (.block ic (.region id ops false)) D .ready with state := .busy }
  have nT : ¬ ColT Tb D0 W l := by
   obtain ⟨v, flat, O, c1, c2, _⟩ := hC.ex
   rintro (h | ⟨v', h1, h2⟩)
   · have := hC.lp; rw [h, c1] at this; cases this
   · rw [c1] at h1
     simp only [Option.some.injEq, Obj.cells.injEq] at h1
     have : v = v' := by simpa using h1.1
     subst this
     exact (owns_blk c2 h2).1.2.2.1 rfl
  obtain ⟨W2, hW2⟩ : ∃ W2, W2 = (W.putObj l (.loop { lrec fn tmps #[pa, pb] (.seq (.region ia #[oa] false) (.region ib #[ob] false)) (.block ic (.region id ops false)) D .ready with state := .busy })) := ⟨_, rfl⟩
  have w2s : W2.heap.size = W.heap.size := by rw [hW2]; simp
  have w2o : ∀ k, k ≠ l → W2.heap[k]? = W.heap[k]? := fun k hk => by rw [hW2]; exact World.putObj_heap_other hk
  have w2c : ∀ b o, W2.cell? ⟨b, o, none⟩ = W.cell? ⟨b, o, none⟩ := fun b o => by
   by_cases e : b = l
   · subst e
     rw [hW2]
     simp only [World.cell?, World.putObj_heap_same ll, hC.lp]
   · exact cell?_of_heap (w2o b e) o
  rw [← hW2] at hC2 hT2 ⊢
  refine wpIn_block (wpIn_region ?_)
  refine collect_body (ro := some l) (O2 := ok) (σ := fun t => if t = tb then .raw (.pointer (some ⟨D0, 0, none⟩)) else if t = qa then .p v0 else if t = qb then .p v1 else .any) (part := part v0 v1) hC2 b1 b2 b3 b4 b5 b6 b7 hL.hTb b8 l6 hL.hsz (by simpa using s0) rfl ?_ ?_ (fun b hb => ⟨by rw [w2s]; exact (hok b hb).1, fun h => (hok b hb).2.1 ((hT2 b).1 h), (hok b hb).2.2⟩) hA0 (b9 D0 xs v0 v1 hlen hgood) ?_
  · rw [getD_put _ _ _ _ (by simpa [s0] using l4), if_neg n4, getD_put _ _ _ _ (by rw [s0]; exact l3), if_neg n3, g0, if_neg n2, if_neg n1]
    exact htb
  · intro t
    dsimp only
    rw [getD_put _ _ _ _ (by simpa [s0] using l4), getD_put _ _ _ _ (by rw [s0]; exact l3)]
    by_cases h1 : t = tb
    · subst h1
      rw [if_pos rfl, if_neg n4, if_neg n3, g0, if_neg n2, if_neg n1, htb]
      exact .inr (.inr rfl)
    · rw [if_neg h1]
      by_cases h2 : t = qa
      · subst h2
        rw [if_pos rfl, if_neg n7, if_pos rfl]
        exact .inl ⟨v0, rfl, r0.mono (fun _ h => h) fun b o _ => w2c b o⟩
      · rw [if_neg h2]
        by_cases h3 : t = qb
        · subst h3
          rw [if_pos rfl, if_pos rfl]
          exact .inl ⟨v1, rfl, r1.mono (fun _ h => h) fun b o _ => w2c b o⟩
        · rw [if_neg h3]; exact .inr (.inl rfl)
  · intro a' W3 hC3 hs3 hk3 ht3
    simp only [Exit.inBlock]
    have hend := run_endRound (P := P) none hC3.lp
    refine ⟨_, _, hend, rfl, ?_, by simpa [w2s] using hs3, fun k hk hT => ?_, fun b hT => ?_⟩
    · have := hC3.putRec (lrec fn tmps #[pa, pb] (.seq (.region ia #[oa] false) (.region ib #[ob] false)) (.block ic (.region id ops false)) D .ready)
      exact this
    · by_cases e : k = l
      · subst e
        rw [World.putObj_heap_same (Array.getElem?_eq_some_iff.1 hC3.lp).1, hC.lp]
        rfl
      · rw [World.putObj_heap_other e, hk3 k (by rw [w2s]; exact hk) (fun h => hT ((hT2 k).1 h)), w2o k e]
    · have h1 : ColT Tb D0 W3 b := (ColT_put hC3 _ b).1 hT
      rcases ht3 b h1 with h | h
      · exact .inl ((hT2 b).1 h)
      · rw [w2s] at h; exact .inr h
 have ea : (Act.mk t0 []).eval (.tmp pa) = x0 := by
  show t0.getD pa undef = x0
  rw [g0, if_neg n5, if_pos rfl]
 have eb : ((Act.mk t0 []).put (some qa) x0).eval (.tmp pb) = x1 := by
  show (t0.setIfInBounds qa x0).getD pb undef = x1
  rw [getD_put _ _ _ _ (by rw [s0]; exact l3), if_neg (fun h => n6 h.symm), g0, if_pos rfl]
 have fin : (Code.seq (.region ia #[oa] false) (.region ib #[ob] false)).wpIn (Fence.wide.inRound l) m P (Exit.then (fun a₁ w₁ => ∃ w₂, (Instr.beginRound l).run P w₁ = .ok () w₂ ∧ (Code.block ic (.region id ops false)).wpIn (Fence.wide.inRound l) m P
  (roundPost P l fun e W' => e = .returned (.bool true) ∧ Col A0 Tb T sz D0 l D w00 (lrec fn tmps #[pa, pb] (.seq (.region ia #[oa] false) (.region ib #[ob] false)) (.block ic (.region id ops false)) D .ready) (xs ++ [part v0 v1]) W' ∧ W.heap.size ≤ W'.heap.size ∧
  (∀ k, k < W.heap.size → ¬ ColT Tb D0 W k → W'.heap[k]? = W.heap[k]?) ∧ ∀ b, ColT Tb D0 W' b → ColT Tb D0 W b ∨ W.heap.size ≤ b) a₁ w₂) (fun _ _ _ => False)) { tmps := t0, defers := [] } W := by
  refine wpIn_seq ?_
  refine wpIn_assign (ro := some l) oa1 oa2 ?_
  simp only [Exit.then]
  refine wpIn_assign (ro := some l) ob1 ob2 ?_
  simp only [Exit.then]
  refine ⟨_, hbusy, ?_⟩
  rw [oa3, ob3, ea, eb]
  exact main
 rw [ht0] at fin
 exact fin
def colY (hL : LC P n Tb T sz pa pb qa qb tb tl tv as bd good part) (htm : tmps.size = n) (htb : tmps.getD tb undef = .pointer (some ⟨D0, 0, none⟩)) (hA0 : ∀ b, w00.heap.size ≤ b → A0 b) : YC P (List V) where
 l := l
 J xs W := Col A0 Tb T sz D0 l D w00 (lrec fn tmps #[pa, pb] as bd D .ready) xs W
 T := ColT Tb D0
 YR xs vs ys := xs.length ≤ 2 ^ 20 ∧ ∃ v0 v1, vs = [v0, v1] ∧ good v0 v1 ∧ ys = xs ++ [part v0 v1]
 A0 := A0
 newA xs W b hJ hb := hA0 b (Nat.le_trans hJ.low.size hb)
 grow xs W W' hJ hb := hJ.grow hb
 lt xs W b hJ hT := hJ.lt hT
 yld xs W ok vs vals m hJ hok hargs hex := by
  obtain ⟨ys, hlen, v0, v1, rfl, hgood, _⟩ := hex
  obtain ⟨f, t, a, b, hy, hr⟩ := col_yield hL htm htb hA0 hlen hJ hok hargs hgood m
  exact ⟨f, t, a, b, hy, hr.mono fun e W' ⟨h1, h2, h3, h4, h5⟩ => ⟨_, ⟨hlen, v0, v1, rfl, hgood, rfl⟩, h1, h2, h3, h4, h5⟩⟩
def SIt (l : Nat) (caps : List V) : St := ⟨fun t => match t with | 0 => .raw (.func (.yield l) #[] #[]) | t + 1 => argSlot caps t, fun _ => ⟨0, none⟩⟩
theorem range_collect {m n' : Nat} {g : Operand} {Q : Exit → Act → World → Prop} {a : Act} {w : World} {gf : FuncId} {lb : Array Value} {gfn : Func} {gc : Code} {gsc : SC} {caps : List V} {okI : Nat → Prop} {F : List V → Prop}
 (hL : LC P n Tb T sz pa pb qa qb tb tl tv as bd good part) (htm : a.tmps.size = n) (htb : a.tmps.getD tb undef = .pointer (some ⟨D0, 0, none⟩)) (hA0 : ∀ b, w00.heap.size ≤ b → A0 b)
 (hbox : w.heap[D0]? = some (.cells #[.slice none 0 0] Tb (0, 0))) (hlow : Below w00.heap.size w00 w) (hD0 : w00.heap.size ≤ D0)
 (hg : a.eval g = .func (.func gf) #[] lb) (hf : P.funcs[gf]? = some gfn) (hb : gfn.body = some gc) (hname : (gfn.name == "runtime.NumGoroutine") = false) (hn' : gfn.ntmps = n') (hsl : slimCode P n' gc = some gsc) (hres : gfn.results = #[])
 (hlb : ArgRel w okI caps lb) (hokI : ∀ b, okI b → b < w.heap.size ∧ b ≠ D0 ∧ A0 b) (hcn : caps.length + 1 ≤ n')
 (hit : ∀ (fn : FuncId) (l D : Nat), WJ (colY (fn := fn) (l := l) (D := D) hL htm htb hA0) n' gsc (fun e xs _ => (e = .normal ∨ e = .ret) ∧ F xs) [] (SIt l caps))
 (hdone : ∀ (D l : Nat) (lp : Loop) (xs : List V) (W : World), F xs → Col A0 Tb T sz D0 l D w00 lp xs W → Q .normal { a with defers := { target := .collected D, args := #[] } :: a.defers } W) :
 (Code.rangeFunc g #[pa, pb] as bd).wpIn Fence.wide m P Q a w := by
 refine wpIn_rangeFunc fun fn _ => ?_
 obtain ⟨w1, hw1⟩ : ∃ w1, w1 = (w.alloc (.deferred (some []))).alloc (.loop (lrec fn a.tmps #[pa, pb] as bd w.heap.size .ready)) := ⟨_, rfl⟩
 have ha1 : ∀ k, k < w.heap.size → w1.heap[k]? = w.heap[k]? := fun k hk => by
  rw [hw1, Below.heap_alloc _ _ k (by simp; omega), Below.heap_alloc _ _ k hk]
 have hsz1 : w1.heap.size = w.heap.size + 2 := by rw [hw1]; simp
 have hl1 : w1.heap[w.heap.size + 1]? = some (.loop (lrec fn a.tmps #[pa, pb] as bd w.heap.size .ready)) := by
  rw [hw1]
  have := World.alloc_heap_new (w.alloc (.deferred (some []))) (.loop (lrec fn a.tmps #[pa, pb] as bd w.heap.size .ready))
  rwa [World.size_alloc] at this
 have hD1 : w1.heap[w.heap.size]? = some (.deferred (some [])) := by
  rw [hw1]
  exact (Below.heap_alloc _ _ _ (by simp)).trans (World.alloc_heap_new w _)
 have hb1 : Below w.heap.size w w1 := by
  rw [hw1]
  exact ((Below.refl _ w).alloc (Nat.le_refl _) _).alloc (by simp) _
 have hent : (Instr.enterLoop fn a.tmps #[pa, pb] as bd Fence.wide.round).run P w = .ok (w.heap.size + 1, [{ target := .collected w.heap.size, args := #[] }]) w1 := by
  rw [hw1]
  exact run_enterLoop_outer _ _ _ _ _
 refine ⟨w.heap.size + 1, [{ target := .collected w.heap.size, args := #[] }], w1, { target := .fn (.func gf) lb, args := #[Value.func (.yield (w.heap.size + 1)) #[] #[]] }, w1, gf, #[Value.func (.yield (w.heap.size + 1)) #[] #[]] ++ lb, w1, hent, ?_, fun f' _ => trivial, ?_, (fun h => by cases h), ?_⟩
 · simp only [resolve, hg, Deferred.ofValue]
   simp [Act.eval]
 · have he := enters_run (P := P) hf (by rw [hb]; rfl) hname (#[Value.func (.yield (w.heap.size + 1)) #[] #[]] ++ lb) w1
   simp only [invoke]
   exact he
 · refine callsIn_of_wp hf hb trivial ?_
   have hl0 : D0 < w.heap.size := (Array.getElem?_eq_some_iff.1 hbox).1
   have hJ0 : Col A0 Tb T sz D0 (w.heap.size + 1) w.heap.size w00 (lrec fn a.tmps #[pa, pb] as bd w.heap.size .ready) [] w1 :=
    ⟨⟨.slice none 0 0, [], fun _ => False, (ha1 D0 hl0).trans hbox, ⟨by simp, .inl ⟨rfl, rfl⟩⟩, RelFlat.nil sz, fun b hb => hb.elim⟩, hl1, hD1, hlow.trans (hb1.mono hlow.size), hD0, Nat.le_trans hlow.size (by omega), hlow.size⟩
   have hRJ : RJ (colY (fn := fn) (l := w.heap.size + 1) (D := w.heap.size) hL htm htb hA0) n' (fun b => okI b ∨ w1.heap.size ≤ b) ⟨w1, fun _ => none⟩ [] (SIt (w.heap.size + 1) caps)
    { tmps := #[Value.func (.yield (w.heap.size + 1)) #[] #[]] ++ lb ++ Array.replicate (gfn.ntmps - (#[Value.func (.yield (w.heap.size + 1)) #[] #[]] ++ lb).size) undef, defers := [] } w1 := by
    have hlbs := hlb.1
    have hcap : caps.length + 1 ≤ gfn.ntmps := by omega
    refine ⟨⟨⟨fun _ => undef, ⟨fun r o ho => (by cases ho), fun r r' b hr => absurd rfl hr, fun r v h => (by cases h)⟩, fun t => ?_⟩, ⟨rfl, rfl, rfl, Nat.le_refl _, fun _ _ => rfl⟩, ?_, rfl, fun b hb => .inr ?_⟩, rfl, hJ0, fun b hb hT => ?_, fun b hb => ?_⟩
    · have hg' : ∀ t, (#[Value.func (.yield (w.heap.size + 1)) #[] #[]] ++ lb ++ Array.replicate (gfn.ntmps - (#[Value.func (.yield (w.heap.size + 1)) #[] #[]] ++ lb).size) undef).getD (t + 1) undef = (if t < lb.size then lb.getD t undef else undef) := fun t => by
       simp only [Array.getD_eq_getD_getElem?]
       by_cases h1 : t < lb.size
       · rw [if_pos h1, Array.getElem?_append, if_pos (by simp; omega), Array.getElem?_append, if_neg (by simp)]
         simp
       · rw [if_neg h1, Array.getElem?_append, if_neg (by simp; omega), Array.getElem?_replicate]
         split <;> rfl
      cases t with
      | zero =>
       have : (#[Value.func (.yield (w.heap.size + 1)) #[] #[]] ++ lb ++ Array.replicate (gfn.ntmps - (#[Value.func (.yield (w.heap.size + 1)) #[] #[]] ++ lb).size) undef).getD 0 undef = .func (.yield (w.heap.size + 1)) #[] #[] := by
        simp only [Array.getD_eq_getD_getElem?]
        rw [Array.getElem?_append, if_pos (by simp; omega), Array.getElem?_append, if_pos (by simp)]
        rfl
       rw [this]
       exact .raw _
      | succ t =>
       rw [hg' t]
       show RelS _ _ _ _ (argSlot caps t) _
       unfold argSlot
       by_cases h1 : t < caps.length
       · rw [List.getElem?_eq_getElem h1, if_pos (by omega)]
         refine .p _ _ ((hlb.2 t h1).mono (fun b hb => ⟨.inl hb, by have := (hokI b hb).1; omega, fun r hr => absurd rfl hr⟩) fun b o hb => cell?_of_heap (ha1 b (hokI b hb).1) o)
       · rw [List.getElem?_eq_none (by omega), if_neg (by omega)]
         exact .tup _ _ rfl (by simp)
    · simp
      omega
    · rcases hb with hb | ⟨_, _, hb, _⟩
      · exact hb
      · cases hb
    · rcases hT with hT | ⟨v', h1, h2⟩
      · rcases hb with hb | hb
        · exact (hokI b hb).2.1 hT
        · omega
      · rw [ha1 D0 hl0, hbox] at h1
        simp only [Option.some.injEq, Obj.cells.injEq] at h1
        have : Value.slice none 0 0 = v' := by simpa using h1.1
        subst this
        simp [blk] at h2
    · rcases hb with hb | hb
      · exact (hokI b hb).2.2
      · exact hA0 b (Nat.le_trans hlow.size (by omega))
   refine wpIn_mono (hit fn (w.heap.size + 1) w.heap.size gc hsl (m - 1) _ _ _ _ hRJ) ?_
   rintro e a' w' ⟨xs, S', A', w0', ⟨he, hF⟩, hR'⟩
   have hJ := ((colY (fn := fn) (l := w.heap.size + 1) (D := w.heap.size) hL htm htb hA0).grow xs _ _ hR'.j (below_of hR'.giv hR'.rel.below)).1
   have hJ' : Col A0 Tb T sz D0 (w.heap.size + 1) w.heap.size w00 (lrec fn a.tmps #[pa, pb] as bd w.heap.size .ready) xs w' := hJ
   have hend := run_endLoop (P := P) hJ'.lp (by simp [lrec])
   have hpost : a'.defers = [] ∧ ∃ v, (results gfn a'.tmps).run P w' = .ok v w' ∧ rangePost Fence.wide m P (w.heap.size + 1) Q { a with defers := [{ target := .collected w.heap.size, args := #[] }] ++ a.defers } (.returned v) w' := by
    refine ⟨hR'.rel.defers, packed [], results_run gfn a'.tmps (by rw [hres]; rfl), none, _, hend, ?_⟩
    exact hdone w.heap.size (w.heap.size + 1) _ xs _ hF (hJ'.putRec _)
   rcases he with rfl | rfl
   · exact hpost
   · exact hpost
end
end Go.Vw
