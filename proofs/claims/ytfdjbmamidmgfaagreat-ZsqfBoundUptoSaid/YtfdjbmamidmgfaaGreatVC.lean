/- A function that is ranged over: what its body does between the rounds and in them. A base for the claims; it names no program. -/
import Derived.Test.YtfdjbmamidmgfaaGreatVB
import Derived.RangeFuncLeaves
import Derived.RangeFuncRecord
import Derived.RangeFuncOwn
import Derived.RangeFuncCalls
import Derived.OrdersIn
import Derived.LoopNIn
set_option linter.unusedVariables false
set_option linter.unusedSimpArgs false
namespace Go.Vw
open Go.RowKit (Below)
def Fx : Option Nat → Fence
 | none => Fence.wide
 | some l => Fence.wide.inRound l
theorem fx_fn (ro : Option Nat) (f : FuncId) : (Fx ro).fn f := by cases ro <;> exact trivial
theorem fx_depth (ro : Option Nat) : (Fx ro).depth = none := by cases ro <;> rfl
theorem fx_round (ro : Option Nat) : (Fx ro).round = ro := by cases ro <;> rfl
theorem fx_room (ro : Option Nat) (n : Nat) : (Fx ro).room n := by
 intro d h
 rw [fx_depth] at h
 simp at h
theorem fx_calls {ro : Option Nat} {m : Nat} {P : Program} {f : FuncId} {args : Array Value} {w : World} {R : Ending → World → Prop} (h : Calls P f args w R) : CallsIn (Fx ro) m P f args w R := by
 cases ro with
 | none => exact callsIn_wide.2 h
 | some l => exact CallsIn.inRound l (callsIn_wide.2 h)
theorem fx_steps {ro : Option Nat} {P : Program} {m m' : Machine} (h : Steps P m m') : StepsIn (Machine.fenced P (Fx ro)) P m m' := by
 cases ro with
 | none => exact stepsIn_wide.2 h
 | some l => rw [Fx, fenced_inRound]; exact stepsIn_wide.2 h
section
variable {P : Program} {n m : Nat} {ro : Option Nat}
theorem oper_in {o : Oper} (hd : ∀ c, o.op ≠ .defer c) {a : Act} {w : World} {K : Act → World → Prop} {Q : Exit → Act → World → Prop} (h : o.wp P a w K Q) : o.wpIn (Fx ro) m P a w K Q := by
 refine ⟨fun f _ => fx_fn ro f, ?_⟩
 rw [Oper.semAt_eq _ _ _ hd]
 unfold Oper.wp at h
 generalize (execOp a.eval o).run P w = r at h ⊢
 cases r with
 | ok nx w' =>
  cases nx with
  | value v => exact h
  | skip => exact h
  | defer d => exact h
  | enter f args =>
   refine ⟨fun hd => ?_, fx_calls h⟩
   rw [fx_depth] at hd; cases hd
  | row row args =>
   refine ⟨fun hd => ?_, fun c cs _ => ?_⟩
   · rw [fx_depth] at hd; cases hd
   · obtain ⟨v, w'', hr, s⟩ := h c cs
     exact ⟨v, w'', hr, fx_steps s⟩
  | _ => exact h.elim
 | halt x w' =>
  cases x with
  | panic v => exact h
  | _ => exact h.elim
theorem noDef_of_slim {o : Oper} {so : SO} (h : slimOp P o = some so) : ∀ c, o.op ≠ .defer c := by
 intro c hc
 unfold slimOp at h
 rw [hc] at h
 simp at h
theorem op_regionIn {A : Nat → Prop} {w0 : Base} {S : St} {ops : Array Oper} {o : Oper} {so : SOp} {i : Nat} (hi : ops[i]? = some o) (hs : slim1 P n ops o = some so) (pd : List Nat) {K : St → Prop} (h : AOp P pd so K S)
 {a : Act} {w : World} (hR : RelSt A w0 n S a w) {K' : Act → World → Prop} {Q : Exit → Act → World → Prop} (hk : ∀ S' a' w', K S' → RelSt A w0 n S' a' w' → K' a' w') : wpOpIn (Fx ro) m P ops Q i K' a w := by
 unfold slim1 at hs
 split at hs
 · rename_i hdst
   have hd : ∀ t, o.dst = some t → t < n := fun t ht => by rw [ht] at hdst; simpa using hdst
   have hskip : ∀ w, RelSt A w0 n S a w → RelSt A w0 n (S.put o.dst (.tup [])) (a.put o.dst undef) w := fun w hR => by
    obtain ⟨μ, H, rel⟩ := hR.ex
    exact RelSt.put' rel hR.size hR.defers hR.new H (Keeps.refl A w μ S.h) hR.below hd (.tup _ _ rfl (by simp))
   have hcore : ∀ {a : Act} {w : World}, RelSt A w0 n S a w → ACore P pd o.dst ((slimOp P o).getD .bad) K S → o.wpIn (Fx ro) m P a w K' Q := fun hR h => by
    cases hop : slimOp P o with
    | none => rw [hop] at h; exact h.elim
    | some sop => rw [hop] at h; exact oper_in (noDef_of_slim hop) (op_wp hop hd pd h hR hk)
   have hab : ∀ f, o.about P w a.eval = some f → (Fx ro).fn f := fun f _ => fx_fn ro f
   unfold wpOpIn
   simp only [hi]
   split at hs
   · rename_i hg
     simp only [Option.some.injEq] at hs; subst hs
     simp only [AOp] at h
     rw [if_pos (by simp [Region.wanted, hg])]
     exact hcore hR h
   · rename_i j want hg
     split at hs
     · rename_i g hgj
       simp only [Option.some.injEq] at hs; subst hs
       simp only [AOp] at h
       obtain ⟨μ, H, rel⟩ := hR.ex
       have hrg := rel g
       have hy : yielded ops a.tmps j = (match a.tmps.getD g undef with | .bool b => some b | _ => none) := by
        simp only [yielded, hgj, Option.bind_some]
        by_cases hlt : g < a.tmps.size
        · simp [hlt, Array.getD]
          split <;> simp_all
        · simp [hlt, Array.getD, undef]
       split at h
       · rename_i c hc
         rw [hc] at hrg
         have hv := bool_inv (p_inv hrg)
         rw [hv] at hy
         simp only at hy
         by_cases hcw : c = want
         · rw [if_pos (by simp [Region.wanted, hg, hy, hcw])]
           exact hcore hR (h.1 hcw)
         · rw [if_neg (by simp [Region.wanted, hg, hy, hcw])]
           exact ⟨hab, hk _ _ _ (h.2 (by cases c <;> cases want <;> simp_all)) (hskip w hR)⟩
       · rename_i k m hc
         rw [hc] at hrg
         have hv := int_inv (p_inv hrg)
         rw [hv] at hy
         simp only at hy
         rw [if_neg (by simp [Region.wanted, hg, hy])]
         exact ⟨hab, hk _ _ _ h (hskip w hR)⟩
       · rename_i vs hc
         rw [hc] at hrg
         obtain ⟨vals, hv, _⟩ := tup_inv hrg
         rw [hv] at hy
         simp only at hy
         rw [if_neg (by simp [Region.wanted, hg, hy])]
         exact ⟨hab, hk _ _ _ h (hskip w hR)⟩
       · exact h.elim
     · cases hs
 · cases hs
theorem run_regionIn {A : Nat → Prop} {w0 : Base} {ops : Array Oper} (pd : List Nat) {K : St → Prop} {Q' : Exit → Act → World → Prop} (tail : List Nat) (hK : ∀ S' a' w', K S' → RelSt A w0 n S' a' w' → wpOpsIn (Fx ro) m P ops Q' tail a' w') :
 ∀ (l : List Oper) (k : Nat) (sl : List SOp) (S : St) (a : Act) (w : World), (∀ j, j < l.length → l[j]? = ops[k + j]?) → slimL P n ops l = some sl → RunL P pd K sl S → RelSt A w0 n S a w → wpOpsIn (Fx ro) m P ops Q' (List.range' k l.length ++ tail) a w
 | [], k, sl, S, a, w, _, hs, h, hR => by
  simp only [slimL, Option.some.injEq] at hs; subst hs
  exact hK _ _ _ h hR
 | o :: rest, k, sl, S, a, w, hl, hs, h, hR => by
  simp only [slimL] at hs
  split at hs
  · rename_i so r ho hr
    simp only [Option.some.injEq] at hs; subst hs
    simp only [List.length_cons, List.range'_succ, List.cons_append]
    rw [wpOpsIn_cons]
    have h0 : ops[k]? = some o := by simpa using (hl 0 (by simp)).symm
    simp only [RunL] at h
    refine op_regionIn h0 ho pd h hR fun S' a' w' hS' hR' => ?_
    exact run_regionIn pd tail hK rest (k + 1) r S' a' w' (fun j hj => by have := hl (j + 1) (by simp; omega); simpa [Nat.add_assoc, Nat.add_comm 1 j] using this) hr hS' hR'
  · cases hs
structure YC (P : Program) (G : Type) where
 l : Nat
 J : G → World → Prop
 T : World → Nat → Prop
 YR : G → List V → G → Prop
 A0 : Nat → Prop
 newA : ∀ g W b, J g W → W.heap.size ≤ b → A0 b
 grow : ∀ g W W', J g W → Below W.heap.size W W' → J g W' ∧ ∀ b, T W' b → T W b
 lt : ∀ g W b, J g W → T W b → b < W.heap.size
 yld : ∀ g W (ok : Nat → Prop) vs vals m, J g W → (∀ b, ok b → b < W.heap.size ∧ ¬ T W b ∧ A0 b) → ArgRel W ok vs vals → (∃ g', YR g vs g') →
  YieldAt Fence.wide m P l vals W fun e W' => ∃ g', YR g vs g' ∧ e = .returned (.bool true) ∧ J g' W' ∧ W.heap.size ≤ W'.heap.size ∧
   (∀ k, k < W.heap.size → ¬ T W k → W'.heap[k]? = W.heap[k]?) ∧ ∀ b, T W' b → T W b ∨ W.heap.size ≤ b
variable {G : Type} (Y : YC P G)
structure RJ (n : Nat) (A : Nat → Prop) (w0 : Base) (g : G) (S : St) (a : Act) (w : World) : Prop where
 rel : RelSt A w0 n S a w
 giv : w0.giv = fun _ => none
 j : Y.J g w0.w
 apart : ∀ b, A b → ¬ Y.T w0.w b
 inA : ∀ b, A b → Y.A0 b
def PJ (n : Nat) (Q : Exit → G → St → Prop) : Exit → Act → World → Prop := fun e a' w' => ∃ g' S' A' w0', Q e g' S' ∧ RJ Y n A' w0' g' S' a' w'
def WJ (n : Nat) (sc : SC) (Q : Exit → G → St → Prop) (g : G) (S : St) : Prop :=
 ∀ c, slimCode P n c = some sc → ∀ (m : Nat) (A : Nat → Prop) (w0 : Base) (a : Act) (w : World), RJ Y n A w0 g S a w → c.wpIn Fence.wide m P (PJ Y n Q) a w
def thenJ (next : G → St → Prop) (Q : Exit → G → St → Prop) : Exit → G → St → Prop
 | .normal, g, S => next g S
 | e, g, S => Q e g S
def blockJ (id : Nat) (Q : Exit → G → St → Prop) : Exit → G → St → Prop
 | .exit i, g, S => if i = id then Q .normal g S else Q (.exit i) g S
 | e, g, S => Q e g S
variable {Y} {Q : Exit → G → St → Prop} {g : G} {S : St}
theorem WJ_of {sc : SC} {Q0 : Exit → St → Prop} (h : WS P n sc Q0 S) (hq : ∀ e S', Q0 e S' → Q e g S') : WJ Y n sc Q g S := by
 intro c hc m A w0 a w hR
 refine wpIn_wide.2 (wp_mono (h c hc A w0 a w hR.rel) ?_)
 rintro e a' w' ⟨S', q, r⟩
 exact ⟨g, S', A, w0, hq e S' q, r, hR.giv, hR.j, hR.apart, hR.inA⟩
theorem WJ_seq {x y : SC} (h : WJ Y n x (thenJ (WJ Y n y Q) Q) g S) : WJ Y n (.seq x y) Q g S := by
 intro c hc m A w0 a w hR
 obtain ⟨ca, cb, rfl, ha, hb⟩ := slim_seq hc
 refine wpIn_seq (wpIn_mono (h ca ha m A w0 a w hR) ?_)
 rintro e a' w' ⟨g', S', A', w0', q, r⟩
 cases e with
 | normal => exact q cb hb m A' w0' a' w' r
 | _ => exact ⟨g', S', A', w0', q, r⟩
theorem WJ_block {id : Nat} {b : SC} (h : WJ Y n b (blockJ id Q) g S) : WJ Y n (.block id b) Q g S := by
 intro c hc m A w0 a w hR
 cases c <;> simp only [slimCode, reduceCtorEq, Option.map_eq_some_iff, and_false, exists_false, Option.some.injEq, SC.block.injEq] at hc <;> (try (revert hc; (repeat' split) <;> simp; done))
 obtain ⟨b', hb, rfl, rfl⟩ := hc
 refine wpIn_block (wpIn_mono (h _ hb m A w0 a w hR) ?_)
 rintro e a' w' ⟨g', S', A', w0', q, r⟩
 cases e with
 | exit i =>
  simp only [blockJ] at q
  simp only [Exit.inBlock]
  split
  · rename_i he; rw [if_pos he] at q; exact ⟨g', S', A', w0', q, r⟩
  · rename_i he; rw [if_neg he] at q; exact ⟨g', S', A', w0', q, r⟩
 | _ => exact ⟨g', S', A', w0', q, r⟩
theorem WJ_cond {cx : SX} {x y : SC} {t : Bool} (hev : S.ev cx = .p (.b t)) (h1 : t = true → WJ Y n x Q g S) (h2 : t = false → WJ Y n y Q g S) : WJ Y n (.cond cx x y) Q g S := by
 intro c hc m A w0 a w hR
 cases c <;> simp only [slimCode, reduceCtorEq, Option.map_eq_some_iff, and_false, exists_false, Option.some.injEq] at hc <;> (try (revert hc; (repeat' split) <;> simp; done))
 split at hc
 · rename_i cx' x' y' hx ha hb
   simp only [Option.some.injEq, SC.cond.injEq] at hc
   obtain ⟨rfl, rfl, rfl⟩ := hc
   obtain ⟨μ, H, rel⟩ := hR.rel.ex
   have hv := bool_inv (p_of hx hev rel)
   cases t with
   | true => exact wpIn_cond_true hv (h1 rfl _ ha m A w0 a w hR)
   | false => exact wpIn_cond_false hv (h2 rfl _ hb m A w0 a w hR)
 · cases hc
theorem WJ_loop {b : SC} (I : G → St → Prop) (me : G → St → Nat) (h0 : I g S) (h : ∀ g' S', I g' S' → WJ Y n b (thenJ (fun g'' S'' => I g'' S'' ∧ me g'' S'' < me g' S') Q) g' S') : WJ Y n (.loop b) Q g S := by
 intro c hc m A w0 a w hR
 cases c <;> simp only [slimCode, reduceCtorEq, Option.map_eq_some_iff, and_false, exists_false, Option.some.injEq, SC.loop.injEq] at hc <;> (try (revert hc; (repeat' split) <;> simp; done))
 rename_i cb
 obtain ⟨b', hb, rfl⟩ := hc
 have key : ∀ (k : Nat) (g : G) (S : St) A w0 a w, me g S < k → I g S → RJ Y n A w0 g S a w → Code.roundsIn Fence.wide m P cb (PJ Y n Q) k a w := by
  intro k
  induction k with
  | zero => intro g S A w0 a w hk; omega
  | succ k ih =>
   intro g S A w0 a w hk hI hR
   refine wpIn_mono (h g S hI cb hb m A w0 a w hR) ?_
   rintro e a' w' ⟨g', S', A', w0', q, r⟩
   cases e with
   | normal => exact ih g' S' A' w0' a' w' (by have := q.2; omega) q.1 r
   | _ => exact ⟨g', S', A', w0', q, r⟩
 exact wpIn_loop_rounds _ (key _ g S A w0 a w (Nat.lt_succ_self _) h0 hR)
theorem RelS.move {w w' : World} {ok ok' : Nat → Prop} {μ μ' : Nat → Value} {h h' : Nat → HC} (hok : ∀ b, ok b → ok' b) (hc : ∀ b o, ok b → w'.cell? ⟨b, o, none⟩ = w.cell? ⟨b, o, none⟩) (hr : ∀ r, (h r).g < (h' r).g) {sv : SV} {val : Value}
 (hs : RelS w ok μ h sv val) : RelS w' ok' μ' h' sv val := by
 induction hs with
 | p v val hv => exact .p v val (hv.mono hok hc)
 | any val => exact .any val
 | bool x => exact .bool x
 | raw v => exact .raw v
 | own_stale r g off len val hg => exact .own_stale r g off len val (by have := hr r; omega)
 | own r g off len val hg hs => exact .own_stale r g off len val (by have := hr r; omega)
 | ptr_stale r g j val hg => exact .ptr_stale r g j val (by have := hr r; omega)
 | ptr r g j val hg hs => exact .ptr_stale r g j val (by have := hr r; omega)
 | tup vs vals hlen hrel ih => exact .tup vs vals hlen ih
 | bnd_stale f r g val hg => exact .bnd_stale f r g val (by have := hr r; omega)
 | bnd f r g pv hg hs => exact .bnd_stale f r g _ (by have := hr r; omega)
theorem below_of {w0 : Base} {w : World} (hg : w0.giv = fun _ => none) (h : BelowX w0 w) : Below w0.w.heap.size w0.w w :=
 ⟨h.os, h.tape, h.output, h.size, fun k hk => h.block k fun hb => by
  rcases hb with hb | ⟨r, v, hv, _⟩
  · omega
  · rw [hg] at hv; cases hv⟩
theorem WJ_yield {sp sq : List SOp} {d gi : Nat} {f : SX} {args : List SX} {want : Bool} (pd : List Nat) {K1 : St → Prop} (h : RunL P pd K1 sp S)
 (h1 : ∀ S1, K1 S1 → S1.σ gi = .p (.b want) ∧ S1.ev f = .raw (.func (.yield Y.l) #[] #[]) ∧ ∃ vs, plains (args.map S1.ev) = some vs ∧ (∃ g', Y.YR g vs g') ∧
  ∀ g', Y.YR g vs g' → RunL P pd (Q .normal g') sq ⟨upd S1.σ d (.p (.b true)), fun r => ⟨(S1.h r).g + 1, none⟩⟩) :
 WJ Y n (.reg (sp ++ ⟨some d, .call f args, some (gi, want)⟩ :: sq)) Q g S := by
 intro c hc m A w0 a w hR
 cases c <;> simp only [slimCode, reduceCtorEq, Option.map_eq_some_iff, and_false, exists_false, Option.some.injEq] at hc <;> (try (revert hc; (repeat' split) <;> simp; done))
 rename_i id os draw
 split at hc
 · rename_i l hl
   split at hc
   · split at hc <;> simp at hc
   · rename_i hdraw
     simp only [Option.some.injEq, SC.reg.injEq] at hc; subst hc
     have : draw = false := by simpa using hdraw
     subst this
     refine wpIn_region ?_
     have part : ∀ (l : List Oper) (sp : List SOp) (y : SOp) (sq : List SOp), slimL P n os l = some (sp ++ y :: sq) → ∃ l1 o l2, l = l1 ++ o :: l2 ∧ slimL P n os l1 = some sp ∧ slim1 P n os o = some y ∧ slimL P n os l2 = some sq := by
      intro l
      induction l with
      | nil => intro sp y sq h; simp [slimL] at h
      | cons o rest ih =>
       intro sp y sq h
       simp only [slimL] at h
       split at h
       · rename_i so r ho hr
         simp only [Option.some.injEq] at h
         cases sp with
         | nil =>
          simp only [List.nil_append, List.cons.injEq] at h
          obtain ⟨rfl, rfl⟩ := h
          exact ⟨[], o, rest, rfl, rfl, ho, hr⟩
         | cons s sp =>
          simp only [List.cons_append, List.cons.injEq] at h
          obtain ⟨rfl, rfl⟩ := h
          obtain ⟨l1, o', l2, rfl, e1, e2, e3⟩ := ih sp y sq hr
          exact ⟨o :: l1, o', l2, rfl, by simp only [slimL, ho, e1], e2, e3⟩
       · cases h
     obtain ⟨l1, o, l2, he, s1, s2, s3⟩ := part os.toList sp _ sq hl
     have hsize : os.size = l1.length + (1 + l2.length) := by
      have := congrArg List.length he
      simpa [Nat.add_comm, Nat.add_left_comm] using this
     have hrange : List.range os.size = List.range' 0 l1.length ++ (l1.length :: (List.range' (l1.length + 1) l2.length ++ [])) := by
      rw [List.range_eq_range', hsize, ← List.range'_append_1, Nat.add_comm 1 l2.length, List.range'_succ, List.append_nil, Nat.zero_add]
     rw [hrange]
     have hget : ∀ k, os[k]? = (l1 ++ o :: l2)[k]? := fun k => by rw [← he, Array.getElem?_toList]
     refine run_regionIn (ro := none) pd _ (fun S1 a1 w1 hS1 hR1 => ?_) l1 0 sp S a w (fun j hj => by rw [hget, Nat.zero_add, List.getElem?_append_left hj]) s1 h hR.rel
     rw [wpOpsIn_cons]
     obtain ⟨hgi, hev, vs, hpl, hex, hnext⟩ := h1 S1 hS1
     have h0 : os[l1.length]? = some o := by rw [hget]; simp
     unfold slim1 at s2
     split at s2
     · rename_i hdst
       split at s2
       · simp at s2
       · rename_i j want' hg
         split at s2
         · rename_i gg hgj
           simp only [Option.some.injEq, SOp.mk.injEq, Prod.mk.injEq] at s2
           obtain ⟨hod, hso, rfl, rfl⟩ := s2
           have hd : d < n := by rw [hod] at hdst; simpa using hdst
           have hsl : slimOp P o = some (.call f args) := by
            cases hop : slimOp P o with
            | none => rw [hop] at hso; simp at hso
            | some x => rw [hop] at hso; simpa using hso
           obtain ⟨μ, H, rel⟩ := hR1.ex
           have hrg := rel gg
           rw [hgi] at hrg
           have hv := bool_inv (p_inv hrg)
           have hy : yielded os a1.tmps j = some want' := by
            simp only [yielded, hgj, Option.bind_some]
            by_cases hlt : gg < a1.tmps.size
            · simp [hlt, Array.getD] at hv ⊢
              rw [hv]
            · simp [hlt, Array.getD, undef] at hv
           have ⟨cl, ho, hcl⟩ : ∃ c, o.op = .call c ∧ slimCall P o c = some (.call f args) := by
            unfold slimOp slimMv at hsl
            split at hsl
            case h_22 => rename_i c ho; exact ⟨c, ho, hsl⟩
            all_goals (exfalso; revert hsl; (repeat' split) <;> simp)
           have ⟨fx, hcal, hf, hargs⟩ : ∃ fx, cl.callee = .value fx ∧ slimX P 0 fx = some f ∧ slimXs P cl.args.toList cl.argTypes.toList = some args := by
            unfold slimCall at hcl
            split at hcl
            · rename_i fx hcal
              split at hcl
              · rename_i f' args' hf hargs
                simp only [Option.some.injEq, SO.call.injEq] at hcl
                obtain ⟨rfl, rfl⟩ := hcl
                exact ⟨fx, hcal, hf, hargs⟩
              · cases hcl
            all_goals (exfalso; revert hcl; (repeat' split) <;> simp)
           have hfv : a1.eval fx = .func (.yield Y.l) #[] #[] := by
            have := ev_rel hf rel
            rw [hev] at this
            generalize a1.eval fx = fv at this
            cases this
            rfl
           obtain ⟨hlen, hrel⟩ := plains_rel rel _ _ _ _ hargs hpl
           have hb := below_of hR.giv hR1.below
           obtain ⟨hj1, hT⟩ := Y.grow g _ _ hR.j hb
           have hYld := Y.yld g w1 (okOf A w1 μ S1.h) vs (cl.args.map a1.eval) (m - 1) hj1 (fun b hb => ⟨hb.2.1, fun ht => hR.apart b hb.1 (hT b ht), hR.inA b hb.1⟩) ⟨by simpa using hlen.symm, fun j hj => by
            have := hrel j hj
            simpa [Array.getD_eq_getD_getElem?, List.getD] using this⟩ hex
           obtain ⟨fn, tmps, assign, body, hy1, hround⟩ := hYld
           unfold wpOpIn
           simp only [h0]
           rw [if_pos (by simp [Region.wanted, hg, hy])]
           refine ⟨fun f _ => trivial, ?_⟩
           rw [Oper.semAt_eq _ _ _ (noDef_of_slim hsl)]
           have hrun : (execOp a1.eval o).run P w1 = (Instr.yield Y.l (cl.args.map a1.eval)).run P w1 := by
            simp only [execOp, ho, resolve, hcal, hfv, Deferred.ofValue, Sem.run_bind, Sem.run_pure, Result.andThen_ok, invoke]
            simp
           rw [hrun, hy1]
           refine ⟨fun hd => (Bool.noConfusion hd), hround.mono ?_⟩
           rintro e w2 ⟨g', hyr, rfl, hj2, hs2, hk2, ht2⟩
           have hR2 : RelSt (fun b => (A b ∧ b < w1.heap.size) ∨ w2.heap.size ≤ b) ⟨w2, fun _ => none⟩ n ⟨upd S1.σ d (.p (.b true)), fun r => ⟨(S1.h r).g + 1, none⟩⟩ (a1.put (some d) (.bool true)) w2 := by
            refine ⟨⟨fun _ => undef, ⟨fun r o ho => (by cases ho), fun r r' b hr => absurd rfl hr, fun r v h => (by cases h)⟩, fun t => ?_⟩, ⟨rfl, rfl, rfl, Nat.le_refl _, fun _ _ => rfl⟩, by simpa [Act.put] using hR1.size, hR1.defers, fun b hb => .inr (by
             rcases hb with hb | ⟨_, _, hb, _⟩
             · exact hb
             · cases hb)⟩
            have mv : ∀ {sv : SV} {val : Value}, RelS w1 (okOf A w1 μ S1.h) μ S1.h sv val → RelS w2 (okOf (fun b => (A b ∧ b < w1.heap.size) ∨ w2.heap.size ≤ b) w2 (fun _ => undef) (fun r => ⟨(S1.h r).g + 1, none⟩)) (fun _ => undef) (fun r => ⟨(S1.h r).g + 1, none⟩) sv val := fun hs =>
             hs.move (fun b hb => ⟨.inl ⟨hb.1, hb.2.1⟩, Nat.lt_of_lt_of_le hb.2.1 hs2, fun r hr => absurd rfl hr⟩) (fun b o hb => cell?_of_heap (hk2 b hb.2.1 fun ht => hR.apart b hb.1 (hT b ht)) o) (fun r => Nat.lt_succ_self _)
            simp only [Act.put, upd_apply]
            rw [getD_put _ _ _ _ (by rw [hR1.size]; exact hd)]
            split
            · exact .p _ _ (.b true)
            · exact mv (rel t)
           rw [hod]
           refine run_regionIn (ro := none) pd [] (K := Q .normal g') (fun S' a' w' hS' hR' => ?_) l2 (l1.length + 1) sq _ _ _ (fun j hj => by
            rw [hget, List.getElem?_append_right (by omega), show l1.length + 1 + j - l1.length = j + 1 by omega]; simp) s3 (hnext g' hyr) hR2
           show PJ Y n Q .normal a' w'
           refine ⟨g', S', _, _, hS', hR', rfl, hj2, fun b hb ht => ?_, fun b hb => ?_⟩
           · rcases hb with ⟨h1, h2⟩ | h1
             · rcases ht2 b ht with h3 | h3
               · exact hR.apart b h1 (hT b h3)
               · omega
             · have := Y.lt g' w2 b hj2 ht
               omega
           · rcases hb with ⟨h1, h2⟩ | h1
             · exact hR.inA b h1
             · exact Y.newA g' w2 b hj2 h1
         · cases s2
     · cases s2
 · cases hc
end
end Go.Vw
