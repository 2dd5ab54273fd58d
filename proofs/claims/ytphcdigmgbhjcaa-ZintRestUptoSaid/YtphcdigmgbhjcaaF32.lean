/- strings.Join, by the library's own contract; nat.Text. -/
import Derived.Test.YtphcdigmgbhjcaaF31
import Derived.Shelf.Strings.OnBuilder
import Derived.KernelRfl
set_option linter.unusedVariables false
set_option linter.unusedSimpArgs false
set_option maxRecDepth 100000
namespace Go.Vw
open Go.Proofs Go.Shelf

def renJ : Ren :=
  { f := fun x => match x with | 156 => 149 | 165 => 168 | 166 => 169 | 169 => 170 | 240 => 175 | 241 => 176 | 276 => 179 | 277 => 180 | n => n
    t := fun x => match x with | 31 => 106 | 9 => 9 | 3 => 3 | 4 => 4 | 0 => 0 | 20 => 20 | 72 => 130 | 76 => 134 | 70 => 128 | 37 => 104 | 75 => 133 | 127 => 138 | 164 => 141 | 5 => 5 | 80 => 136 | n => n
    g := fun x => x }

theorem laysJ : Lays.n156 Try.prog renJ :=
  { mixed := by kernel_rfl
    f156 := by kernel_rfl
    f165 := by kernel_rfl
    f166 := by kernel_rfl
    f169 := by kernel_rfl
    f240 := by kernel_rfl
    f241 := by kernel_rfl
    f276 := by kernel_rfl
    f277 := by kernel_rfl
    t0 := Try.underlying0
    a0 := Try.isAgg0
    z0 := Try.sizeOf0
    v0 := Try.zeroValue0
    t3 := Try.underlying3
    a3 := Try.isAgg3
    z3 := Try.sizeOf3
    v3 := Try.zeroValue3
    t4 := Try.underlying4
    a4 := Try.isAgg4
    z4 := Try.sizeOf4
    v4 := Try.zeroValue4
    t9 := Try.underlying9
    a9 := Try.isAgg9
    z9 := Try.sizeOf9
    v9 := Try.zeroValue9
    t20 := Try.underlying20
    a20 := Try.isAgg20
    z20 := Try.sizeOf20
    v20 := Try.zeroValue20
    t31 := Try.underlying106
    a31 := Try.isAgg106
    z31 := Try.sizeOf106
    v31 := Try.zeroValue106
    t37 := Try.underlying104
    a37 := Try.isAgg104
    z37 := Try.sizeOf104
    v37 := Try.zeroValue104
    t70 := Try.underlying128
    a70 := Try.isAgg128
    z70 := Try.sizeOf128
    v70 := Try.zeroValue128
    t72 := Try.underlying130
    a72 := Try.isAgg130
    z72 := Try.sizeOf130
    v72 := Try.zeroValue130
    t75 := Try.underlying133
    a75 := Try.isAgg133
    z75 := Try.sizeOf133
    v75 := Try.zeroValue133
    t76 := Try.underlying134
    a76 := Try.isAgg134
    z76 := Try.sizeOf134
    v76 := Try.zeroValue134
    t127 := Try.underlying138
    a127 := Try.isAgg138
    z127 := Try.sizeOf138
    v127 := Try.zeroValue138
    t164 := Try.underlying141
    a164 := Try.isAgg141
    z164 := Try.sizeOf141
    v164 := Try.zeroValue141
  }

theorem extraJ : Builder.Extra Try.prog renJ :=
  { sizeBuilder := by kernel_rfl
    liesBuilder := by kernel_rfl
    t5 := Try.underlying5
    a5 := Try.isAgg5
    z5 := Try.sizeOf5
    v5 := Try.zeroValue5
    infoByte := by kernel_rfl
    cellsByte := by kernel_rfl
    sizeByte := by kernel_rfl
    neB5 := by decide }

def sV (l : List (List UInt8)) : List V := l.map fun x => V.s ⟨x.toArray⟩

theorem join_flat : ∀ xs : List (List UInt8), Lib.join xs [] = xs.flatten
  | [] => rfl
  | x :: r => by
    rw [Lib.join_cons, List.flatten_cons, Lib.joinTail]
    congr 2
    exact List.map_id' r

theorem join_spec (xs : List (List UInt8)) (hl : xs.length ≤ 2 ^ 40) (hb : xs.flatten.length ≤ 2 ^ 40) : Spec Try.prog f_strings_Join [.sl none (sV xs), .s ⟨#[]⟩] (· = [.pure (.s ⟨xs.flatten.toArray⟩)]) := by
  intro w ok vals hok hrel
  refine .inl ⟨enters_run Try.func149 (by kernel_rfl) (by kernel_rfl) _ _, ?_⟩
  obtain ⟨hsz, hr⟩ := hrel
  have r0 := hr 0 (by simp)
  have r1 := hr 1 (by simp)
  simp only [List.getElem_cons_zero, List.getElem_cons_succ] at r0 r1
  have hv : vals = #[vals.getD 0 undef, vals.getD 1 undef] := by
    apply Array.ext
    · simpa using hsz
    · intro j h1 h2
      have hj : j = 0 ∨ j = 1 := by simp at h2; omega
      rcases hj with rfl | rfl <;> simp [Array.getD, h1]
  rw [hv]
  have e1 := str_inv r1
  rw [e1]
  generalize vals.getD 0 undef = v0 at r0
  have hj := join_flat xs
  have hm : (xs.map fun x => (⟨x.toArray⟩ : ByteArray)).map (fun b => b.data.toList) = xs := by
    rw [List.map_map]
    have : ((fun b : ByteArray => b.data.toList) ∘ fun x : List UInt8 => (⟨x.toArray⟩ : ByteArray)) = id := by funext x; rfl
    rw [this, List.map_id]
  have fin : ∀ (e : Ending) (w' : World), e = .returned (.string ⟨xs.flatten.toArray⟩) → Go.RowKit.Below w.heap.size w w' →
      ∃ rvs vs, rvs = [RV.pure (.s ⟨xs.flatten.toArray⟩)] ∧ e = .returned (packed vs) ∧ Go.RowKit.Below w.heap.size w w' ∧ RetOK w w' ok rvs vs := by
    intro e w' he hb
    refine ⟨_, [.string ⟨xs.flatten.toArray⟩], rfl, he, hb, ⟨rfl, fun j rv hj => ?_, fun j k x y b hj hk hx => ?_⟩⟩
    · cases j with
      | zero => simp only [List.getElem?_cons_zero, Option.some.injEq] at hj; subst hj; exact .s _
      | succ j => simp at hj
    · cases j with
      | zero => simp only [List.getElem?_cons_zero, Option.some.injEq] at hj; subst hj; cases hx
      | succ j => simp at hj
  generalize hxs : sV xs = ys at r0
  cases r0 with
  | nil =>
    have h0 : xs = [] := by
      cases xs with
      | nil => rfl
      | cons _ _ => simp [sV] at hxs
    subst h0
    refine (Any.strings_Join_none laysJ extraJ none 0 ⟨#[]⟩ w).mono ?_
    rintro e w' ⟨he, rfl⟩
    exact fin e w' he (Go.RowKit.Below.refl _ _)
  | sl _ _ blk off len cap val hlen hokb hcap hrel hsh hcell =>
    subst hxs
    obtain ⟨XS, hXS⟩ : ∃ z, z = xs.map fun x => (⟨x.toArray⟩ : ByteArray) := ⟨_, rfl⟩
    have hlx : len = XS.length := by rw [hlen, hXS]; simp [sV]
    have hlX : XS.length = xs.length := by rw [hXS]; simp
    have hcap' := hcap
    rw [hlx] at hcap' ⊢
    rw [← hXS] at hm
    have hcells : ∀ (j : Nat) x, XS[j]? = some x → w.cell? ⟨blk, off + j, none⟩ = some (.string x) := by
      intro j x hj
      have hjl : j < (sV xs).length := by
        have := (List.getElem?_eq_some_iff.1 hj).1
        rw [hlX] at this
        simpa [sV] using this
      have h1 := hrel j hjl
      have h2 : (sV xs)[j] = V.s x := by
        rw [hXS] at hj
        simp only [List.getElem?_map, Option.map_eq_some_iff] at hj
        obtain ⟨y, hy, rfl⟩ := hj
        have := (List.getElem?_eq_some_iff.1 hy).2
        simp [sV, this]
      rw [h2] at h1
      have h3 := str_inv h1
      have h4 := hcell j hjl
      rw [h3] at h4
      have := h4 0 (.string x) rfl
      simpa [width] using this
    have hsep : (⟨#[]⟩ : ByteArray).data.toList = [] := rfl
    have key := Any.strings_Join laysJ extraJ blk off cap XS ⟨#[]⟩ w hcells (hok blk hokb) (by omega) hcap' (by rw [hm, hsep, hj]; omega)
    rw [hm, hsep, hj] at key
    have key' : Calls Try.prog 149 #[.slice (some ⟨blk, off, none⟩) XS.length cap, .string ⟨#[]⟩] w fun e w' => e = .returned (.string ⟨xs.flatten.toArray⟩) ∧ Go.RowKit.Below w.heap.size w w' := key
    exact key'.mono fun e w' he => fin e w' he.1 he.2
end Go.Vw
