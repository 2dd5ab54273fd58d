/- A loop over a function whose body lays what it is handed at a row's end. A base for the claims; it names no program. -/
import Derived.Test.YtfdjbmamidmgfaaGreatVC
set_option linter.unusedVariables false
set_option linter.unusedSimpArgs false
namespace Go.Vw
open Go.RowKit (Below)
theorem owns_mono {w : World} {B B' : Nat → Prop} {T : TypeId} {size n : Nat} {v : Value} {xs : List Value} (h : owns w B T size v n xs) (hb : ∀ b, blk v = some b → B b → B' b) : owns w B' T size v n xs := by
 refine ⟨h.1, ?_⟩
 rcases h.2 with h2 | ⟨g, cap, cur, rfl, hg, r⟩
 · exact .inl h2
 · exact .inr ⟨g, cap, cur, rfl, hb g rfl hg, r⟩
theorem owns_blk {w : World} {B : Nat → Prop} {T : TypeId} {size n : Nat} {v : Value} {xs : List Value} (h : owns w B T size v n xs) {b : Nat} (hb : blk v = some b) : B b ∧ b < w.heap.size := by
 rcases h.2 with ⟨rfl, _⟩ | ⟨g, cap, cur, rfl, hg, hh, _⟩
 · simp [blk] at hb
 · simp only [blk, Option.some.injEq] at hb
   subst hb
   exact ⟨hg, (Array.getElem?_eq_some_iff.1 hh).1⟩
structure Col (A0 : Nat → Prop) (Tb T : TypeId) (sz : Option Nat) (D0 l D : Nat) (w00 : World) (rec : Loop) (xs : List V) (W : World) : Prop where
 ex : ∃ v flat O, W.heap[D0]? = some (.cells #[v] Tb (0, 0)) ∧ owns W (fun b => w00.heap.size ≤ b ∧ b ≠ D0 ∧ b ≠ l ∧ b ≠ D) T (width sz) v xs.length flat ∧ RelFlat W O sz xs flat ∧ ∀ b, O b → b < W.heap.size ∧ b ≠ D0 ∧ blk v ≠ some b ∧ A0 b
 lp : W.heap[l]? = some (.loop rec)
 fin : W.heap[D]? = some (.deferred (some []))
 low : Below w00.heap.size w00 W
 d0 : w00.heap.size ≤ D0
 dl : w00.heap.size ≤ l
 df : w00.heap.size ≤ D
def ColT (Tb : TypeId) (D0 : Nat) (W : World) (b : Nat) : Prop := b = D0 ∨ ∃ v, W.heap[D0]? = some (.cells #[v] Tb (0, 0)) ∧ blk v = some b
section
variable {A0 : Nat → Prop} {Tb T : TypeId} {sz : Option Nat} {D0 l D : Nat} {w00 : World} {rec : Loop} {xs : List V} {W W' : World}
theorem Col.grow (h : Col A0 Tb T sz D0 l D w00 rec xs W) (hb : Below W.heap.size W W') : Col A0 Tb T sz D0 l D w00 rec xs W' ∧ ∀ b, ColT Tb D0 W' b → ColT Tb D0 W b := by
 obtain ⟨v, flat, O, h1, h2, h3, h4⟩ := h.ex
 have l0 := (Array.getElem?_eq_some_iff.1 h1).1
 have e0 := hb.block D0 l0
 refine ⟨⟨⟨v, flat, O, e0.trans h1, ownsRow_heap (fun b hbl => hb.block b (owns_blk h2 hbl).2) h2, h3.mono (fun _ h => h) (fun b o hO => cell?_of_heap (hb.block b (h4 b hO).1) o), fun b hO => ⟨Nat.lt_of_lt_of_le (h4 b hO).1 hb.size, (h4 b hO).2⟩⟩,
  (hb.block l (Array.getElem?_eq_some_iff.1 h.lp).1).trans h.lp, (hb.block D (Array.getElem?_eq_some_iff.1 h.fin).1).trans h.fin, h.low.trans (hb.mono h.low.size), h.d0, h.dl, h.df⟩, fun b hT => ?_⟩
 rcases hT with hT | ⟨v', h5, h6⟩
 · exact .inl hT
 · exact .inr ⟨v', e0.symm.trans h5, h6⟩
theorem Col.lt (h : Col A0 Tb T sz D0 l D w00 rec xs W) {b : Nat} (hT : ColT Tb D0 W b) : b < W.heap.size := by
 obtain ⟨v, flat, O, h1, h2, h3, h4⟩ := h.ex
 rcases hT with rfl | ⟨v', h5, h6⟩
 · exact (Array.getElem?_eq_some_iff.1 h1).1
 · rw [h1] at h5
   simp only [Option.some.injEq, Obj.cells.injEq] at h5
   have : v = v' := by have := h5.1; simpa using this
   subst this
   exact (owns_blk h2 h6).2
theorem Col.putRec (h : Col A0 Tb T sz D0 l D w00 rec xs W) (rec' : Loop) : Col A0 Tb T sz D0 l D w00 rec' xs (W.putObj l (.loop rec')) := by
 obtain ⟨v, flat, O, h1, h2, h3, h4⟩ := h.ex
 have ll := (Array.getElem?_eq_some_iff.1 h.lp).1
 have n0 : D0 ≠ l := fun e => by rw [e, h.lp] at h1; cases h1
 have nD : D ≠ l := fun e => by have := h.fin; rw [e, h.lp] at this; cases this
 refine ⟨⟨v, flat, O, (World.putObj_heap_other n0).trans h1, ownsRow_heap (fun b hbl => World.putObj_heap_other (owns_blk h2 hbl).1.2.2.1) h2, h3.mono (fun _ h => h) (fun b o hO => ?_), fun b hO => by simpa using h4 b hO⟩, World.putObj_heap_same ll, (World.putObj_heap_other nD).trans h.fin, ?_, h.d0, h.dl, h.df⟩
 · by_cases e : b = l
   · subst e
     simp only [World.cell?, World.putObj_heap_same ll, h.lp]
   · exact cell?_of_heap (World.putObj_heap_other e) o
 · exact h.low.trans (belowK_put h.dl ll)
where
 belowK_put {n₀ l : Nat} {W : World} {o : Obj} (h : n₀ ≤ l) (hl : l < W.heap.size) : Below n₀ W (W.putObj l o) :=
  ⟨rfl, rfl, rfl, by simp, fun k hk => World.putObj_heap_other (by omega)⟩
theorem ColT_put (h : Col A0 Tb T sz D0 l D w00 rec xs W) (rec' : Loop) (b : Nat) : ColT Tb D0 (W.putObj l (.loop rec')) b ↔ ColT Tb D0 W b := by
 obtain ⟨v, flat, O, h1, _⟩ := h.ex
 have n0 : D0 ≠ l := fun e => by rw [e, h.lp] at h1; cases h1
 unfold ColT
 rw [World.putObj_heap_other n0]
variable {P : Program} {n m : Nat}
theorem collect_body {ro : Option Nat} {ops : Array Oper} {o0 oZ : Oper} {mid : List Oper} {smid : List SOp} {tb tl tv : Nat} {part : V} {σ : Nat → SV} {a : Act} {O2 : Nat → Prop} {Q : Exit → Act → World → Prop}
 (hC : Col A0 Tb T sz D0 l D w00 rec xs W) (hops : ops.toList = o0 :: (mid ++ [oZ])) (h0 : o0.op = .load Tb (.tmp tb)) (g0 : o0.guard = none) (d0 : o0.dst = some tl)
 (hZ : oZ.op = .store Tb (.tmp tb) (.tmp tv)) (gZ : oZ.guard = none) (dZ : oZ.dst = none) (hTb : szOf P Tb = some none) (hmid : slimL P n ops mid = some smid) (htl : tl < n) (hsz : 0 < width sz)
 (asize : a.tmps.size = n) (adef : a.defers = []) (htb : a.tmps.getD tb undef = .pointer (some ⟨D0, 0, none⟩))
 (hσ : ∀ t, (∃ v, σ t = .p v ∧ RelV W O2 v (a.tmps.getD t undef)) ∨ σ t = .any ∨ σ t = .raw (a.tmps.getD t undef)) (hO2 : ∀ b, O2 b → b < W.heap.size ∧ ¬ ColT Tb D0 W b ∧ A0 b) (hA0 : ∀ b, w00.heap.size ≤ b → A0 b)
 (hrun : RunL P [] (fun S' => S'.σ tb = .raw (.pointer (some ⟨D0, 0, none⟩)) ∧ ∃ g', S'.σ tv = .own 1 g' 0 (xs.length + 1) ∧ S'.h 1 = ⟨g', some (.arr T sz (xs ++ [part]))⟩) smid
  ⟨upd σ tl (.own 1 0 0 xs.length), fun r => if r = 1 then ⟨0, some (.arr T sz xs)⟩ else ⟨0, none⟩⟩)
 (hQ : ∀ a' W', Col A0 Tb T sz D0 l D w00 rec (xs ++ [part]) W' → W.heap.size ≤ W'.heap.size → (∀ k, k < W.heap.size → ¬ ColT Tb D0 W k → W'.heap[k]? = W.heap[k]?) → (∀ b, ColT Tb D0 W' b → ColT Tb D0 W b ∨ W.heap.size ≤ b) → Q .normal a' W') :
 wpOpsIn (Fx ro) m P ops Q (List.range ops.size) a W := by
 obtain ⟨v, flat, O, c1, c2, c3, c4⟩ := hC.ex
 have l0 := (Array.getElem?_eq_some_iff.1 c1).1
 have hsize : ops.size = 1 + (mid.length + 1) := by
  have := congrArg List.length hops
  simpa [Nat.add_comm, Nat.add_left_comm] using this
 have hrange : List.range ops.size = 0 :: (List.range' 1 mid.length ++ [mid.length + 1]) := by
  rw [List.range_eq_range', hsize, Nat.add_comm 1, List.range'_succ, ← List.range'_append_1]
  simp [Nat.add_comm]
 have hget : ∀ k, ops[k]? = (o0 :: (mid ++ [oZ]))[k]? := fun k => by rw [← hops, Array.getElem?_toList]
 rw [hrange, wpOpsIn_cons]
 have hv1 : v.oneCell' = true := by
  rcases c2.2 with ⟨rfl, _⟩ | ⟨g, cap, cur, rfl, _⟩ <;> rfl
 have hcell : W.rangeAt D0 0 v.cells.toList := by
  have hc : v.cells.toList = [v] := by cases v <;> simp_all [Value.oneCell', Value.cells]
  refine rangeAt_of_row c1 0 _ fun i c hi => ?_
  rw [hc] at hi
  simpa using hi
 have hload : (execOp a.eval o0).run P W = .ok (.value v) W := by
  have e : a.eval (.tmp tb) = .pointer (some ⟨D0, 0, none⟩) := htb
  rw [execOp, h0]
  simp only [e]
  simp [run_loadAt_rel hTb (val := v) hv1 hcell]
 unfold wpOpIn
 simp only [hget 0, List.getElem?_cons_zero]
 rw [if_pos (by simp [Region.wanted, g0])]
 refine ⟨fun f _ => fx_fn ro f, ?_⟩
 rw [Oper.semAt_eq _ _ _ (by rw [h0]; intro c hc; cases hc), hload]
 show wpOpsIn (Fx ro) m P ops Q _ (a.put o0.dst v) W
 rw [d0]
 obtain ⟨A, hA⟩ : ∃ A : Nat → Prop, A = fun b => O b ∨ O2 b ∨ W.heap.size ≤ b ∨ blk v = some b := ⟨_, rfl⟩
 obtain ⟨h, hh⟩ : ∃ h : Nat → HC, h = fun r => if r = 1 then ⟨0, some (.arr T sz xs)⟩ else ⟨0, none⟩ := ⟨_, rfl⟩
 obtain ⟨μ, hμ⟩ : ∃ μ : Nat → Value, μ = fun r => if r = 1 then v else undef := ⟨_, rfl⟩
 have hBO : ∀ b, (Base.mk W fun r => if r = 1 then some v else none).B b ↔ W.heap.size ≤ b ∨ blk v = some b := fun b => by
  unfold Base.B
  constructor
  · rintro (h | ⟨r, v', hr, hb⟩)
    · exact .inl h
    · dsimp only at hr
      split at hr
      · cases hr; exact .inr hb
      · cases hr
  · rintro (h | h)
    · exact .inl h
    · exact .inr ⟨1, v, by simp, h⟩
 have okO : ∀ b, O b → okOf A W μ h b := fun b hb => ⟨by rw [hA]; exact .inl hb, (c4 b hb).1, fun r hr => by
  rw [hh] at hr
  by_cases e : r = 1
  · subst e; rw [hμ]; simpa using (c4 b hb).2.2.1
  · simp [e] at hr⟩
 have okO2 : ∀ b, O2 b → okOf A W μ h b := fun b hb => ⟨by rw [hA]; exact .inr (.inl hb), (hO2 b hb).1, fun r hr => by
  rw [hh] at hr
  by_cases e : r = 1
  · subst e; rw [hμ]; intro hbl; exact (hO2 b hb).2.1 (.inr ⟨v, c1, by simpa using hbl⟩)
  · simp [e] at hr⟩
 have hR : RelSt A (Base.mk W fun r => if r = 1 then some v else none) n ⟨upd σ tl (.own 1 0 0 xs.length), h⟩ (a.put (some tl) v) W := by
  refine ⟨⟨μ, ⟨fun r o ho => ?_, fun r r' b hr hr' _ _ => ?_, fun r v' hv' _ => ?_⟩, fun t => ?_⟩, ⟨rfl, rfl, rfl, Nat.le_refl _, fun _ _ => rfl⟩, by simpa [Act.put] using asize, adef, fun b hb => ?_⟩
  · by_cases e : r = 1
    · subst e
      simp only [hh, if_true, Option.some.injEq] at ho
      subst ho
      refine ⟨flat, ?_, c3.mono okO fun _ _ _ => rfl⟩
      rw [hμ]
      exact owns_mono c2 fun b hbl _ => (hBO b).2 (.inr hbl)
    · simp [hh, e] at ho
  · have e1 : r = 1 := by
     by_cases e : r = 1
     · exact e
     · simp [hh, e] at hr
    have e2 : r' = 1 := by
     by_cases e : r' = 1
     · exact e
     · simp [hh, e] at hr'
    rw [e1, e2]
  · by_cases e : r = 1
    · subst e; simp at hv'; rw [hμ]; simpa using hv'
    · simp [e] at hv'
  · simp only [Act.put, upd_apply]
    rw [getD_put _ _ _ _ (by rw [asize]; exact htl)]
    split
    · refine .own 1 0 0 xs.length v (by simp [hh]) ?_
      have hw : (h 1).width = width sz := by simp [hh, HC.width, HObj.width]
      rw [hw, hμ]
      simp only [if_true]
      rcases c2.2 with ⟨rfl, hn⟩ | ⟨g, cap, cur, rfl, _, _, hcap, _⟩
      · exact ⟨rfl, rfl, hn⟩
      · exact ⟨0, cap, rfl, hcap, .inr ⟨by simp, by simp⟩⟩
    · rcases hσ t with ⟨v', e, hv'⟩ | e | e
      · rw [e]; exact .p _ _ (hv'.mono okO2 fun _ _ _ => rfl)
      · rw [e]; exact .any _
      · rw [e]; exact .raw _
  · rw [hA]
    rcases (hBO b).1 hb with h | h
    · exact .inr (.inr (.inl h))
    · exact .inr (.inr (.inr h))
 rw [← hh] at hrun
 refine run_regionIn (ro := ro) [] [mid.length + 1] (fun S' a' w' hS' hR' => ?_) mid 1 smid _ _ _ (fun j hj => by
  rw [hget, Nat.add_comm 1 j, List.getElem?_cons_succ, List.getElem?_append_left hj]) hmid hrun hR
 obtain ⟨s1, g', s2, s3⟩ := hS'
 obtain ⟨μ', H', rel'⟩ := hR'.ex
 have hobj := H'.obj 1 _ (by rw [s3])
 obtain ⟨flat', e1, e2⟩ := hobj
 have hval : a'.tmps.getD tv undef = μ' 1 := by
  have := rel' tv
  rw [s2] at this
  have hg : g' = (S'.h 1).g := by rw [s3]
  have hw : (S'.h 1).width = width sz := by rw [s3]; rfl
  cases this with
  | own_stale _ _ _ _ _ hlt => omega
  | own _ _ _ _ _ _ hs => rw [hw] at hs; exact own_whole (by simpa using e1) hs
 have hptr : a'.tmps.getD tb undef = .pointer (some ⟨D0, 0, none⟩) := by
  have := rel' tb
  rw [s1] at this
  generalize a'.tmps.getD tb undef = x at this
  cases this
  rfl
 have hnB : ∀ b, b < W.heap.size → blk v ≠ some b → w'.heap[b]? = W.heap[b]? := fun b hb hne => hR'.below.block b fun hB => by
  rcases (hBO b).1 hB with h | h
  · omega
  · exact hne h
 have hbv0 : blk v ≠ some D0 := fun e => (owns_blk c2 e).1.2.1 rfl
 have b0 : w'.heap[D0]? = some (.cells #[v] Tb (0, 0)) := (hnB D0 l0 hbv0).trans c1
 have hv2 : (μ' 1).oneCell' = true := by
  rcases e1.2 with ⟨e, _⟩ | ⟨g, cap, cur, e, _⟩ <;> rw [e] <;> rfl
 have hc2 : (μ' 1).cells = #[μ' 1] := by
  generalize μ' 1 = x at hv2
  cases x <;> simp_all [Value.oneCell', Value.cells]
 rw [wpOpsIn_cons]
 unfold wpOpIn
 have hlast : ops[mid.length + 1]? = some oZ := by rw [hget, List.getElem?_cons_succ]; simp
 simp only [hlast]
 rw [if_pos (by simp [Region.wanted, gZ])]
 refine ⟨fun f _ => fx_fn ro f, ?_⟩
 have hst := run_storeAt (P := P) hTb (w := w') (g := D0) (off := 0) (val := μ' 1) hv2 b0 (by simp [width])
 have hrunZ : (execOp a'.eval oZ).run P w' = .ok .skip (w'.setRow D0 #[μ' 1]) := by
  have e1 : a'.eval (.tmp tb) = .pointer (some ⟨D0, 0, none⟩) := hptr
  have e2 : a'.eval (.tmp tv) = μ' 1 := hval
  rw [execOp, hZ]
  simp only [e1, e2]
  simp [hst, hc2, width]
 rw [Oper.semAt_eq _ _ _ (by rw [hZ]; intro c hc; cases hc), hrunZ]
 show wpOpsIn (Fx ro) m P ops Q [] (a'.put oZ.dst undef) (w'.setRow D0 #[μ' 1])
 have oth : ∀ k, k ≠ D0 → (w'.setRow D0 #[μ' 1]).heap[k]? = w'.heap[k]? := fun k hk => setRow_other w' D0 k _ hk
 have hsz' : W.heap.size ≤ w'.heap.size := hR'.below.size
 have hlo : w00.heap.size ≤ W.heap.size := hC.low.size
 have hbl : ∀ b, blk (μ' 1) = some b → W.heap.size ≤ b ∨ blk v = some b := fun b hb => (hBO b).1 (owns_blk e1 hb).1
 have ll := (Array.getElem?_eq_some_iff.1 hC.lp).1
 have lD := (Array.getElem?_eq_some_iff.1 hC.fin).1
 have nl : l ≠ D0 := fun e => by have := hC.lp; rw [e, c1] at this; cases this
 have nD : D ≠ D0 := fun e => by have := hC.fin; rw [e, c1] at this; cases this
 have hnew : (w'.setRow D0 #[μ' 1]).heap[D0]? = some (.cells #[μ' 1] Tb (0, 0)) := setRow_heap w' D0 #[v] _ Tb _ b0
 have hpred : ∀ b, blk (μ' 1) = some b → w00.heap.size ≤ b ∧ b ≠ D0 ∧ b ≠ l ∧ b ≠ D := fun b hb => by
  rcases hbl b hb with h | h
  · omega
  · exact (owns_blk c2 h).1
 refine hQ _ _ ⟨⟨μ' 1, flat', okOf A w' μ' S'.h, hnew, ?_, e2.mono (fun _ h => h) (fun b o hb => cell?_of_heap (oth b fun e => ?_) o), fun b hb => ⟨by rw [size_setRow]; exact hb.2.1, fun e => ?_, hb.2.2 1 (by rw [s3]; simp), ?_⟩⟩, ?_, ?_, ?_, hC.d0, hC.dl, hC.df⟩ ?_ ?_ ?_
 · rw [List.length_append, List.length_singleton]
   have := owns_mono (B' := fun b => w00.heap.size ≤ b ∧ b ≠ D0 ∧ b ≠ l ∧ b ≠ D) e1 (fun b hb _ => hpred b hb)
   rw [List.length_append, List.length_singleton] at this
   exact ownsRow_heap (fun b hb => oth b (hpred b hb).2.1) this
 · subst e
   have := hb.1
   rw [hA] at this
   rcases this with h | h | h | h
   · exact (c4 _ h).2.1 rfl
   · exact (hO2 _ h).2.1 (.inl rfl)
   · omega
   · exact hbv0 h
 · subst e
   have := hb.1
   rw [hA] at this
   rcases this with h | h | h | h
   · exact (c4 _ h).2.1 rfl
   · exact (hO2 _ h).2.1 (.inl rfl)
   · omega
   · exact hbv0 h
 · have := hb.1
   rw [hA] at this
   rcases this with h | h | h | h
   · exact (c4 _ h).2.2.2
   · exact (hO2 _ h).2.2
   · exact hA0 _ (Nat.le_trans hlo h)
   · exact hA0 _ (owns_blk c2 h).1.1
 · exact ((oth l nl).trans (hnB l ll fun e => (owns_blk c2 e).1.2.2.1 rfl)).trans hC.lp
 · exact ((oth D nD).trans (hnB D lD fun e => (owns_blk c2 e).1.2.2.2 rfl)).trans hC.fin
 · refine ⟨?_, ?_, ?_, by rw [size_setRow]; exact Nat.le_trans hlo hsz', fun k hk => ?_⟩
   · exact hR'.below.os.trans hC.low.os
   · exact hR'.below.tape.trans hC.low.tape
   · exact hR'.below.output.trans hC.low.output
   · have := hC.d0
     exact ((oth k (by omega)).trans (hnB k (by omega) fun e => by have := (owns_blk c2 e).1.1; omega)).trans (hC.low.block k hk)
 · rw [size_setRow]; exact hsz'
 · intro k hk hT
   exact (oth k fun e => hT (.inl e)).trans (hnB k hk fun e => hT (.inr ⟨v, c1, e⟩))
 · intro b hT
   rcases hT with hT | ⟨v', h1, h2⟩
   · exact .inl (.inl hT)
   · rw [hnew] at h1
     simp only [Option.some.injEq, Obj.cells.injEq] at h1
     have : μ' 1 = v' := by simpa using h1.1
     subst this
     rcases hbl b h2 with h | h
     · exact .inr h
     · exact .inl (.inr ⟨v, c1, h⟩)
end
end Go.Vw
