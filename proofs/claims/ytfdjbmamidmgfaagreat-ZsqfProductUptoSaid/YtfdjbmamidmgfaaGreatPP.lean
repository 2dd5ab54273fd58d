/- The resultant goes through products: the only alternating form is the determinant. -/
import Derived.Test.YtfdjbmamidmgfaaGreatPO
set_option linter.unusedVariables false
namespace Go.Dt
open Go.Py
structure Alt (F : List Po → Rat) : Prop where
 lin : ∀ X u v Y a b, F (X ++ (fun e => a * u e + b * v e) :: Y) = a * F (X ++ u :: Y) + b * F (X ++ v :: Y)
 alt : ∀ X u Y Z, F (X ++ u :: (Y ++ u :: Z)) = 0
theorem Alt.scale {F : List Po → Rat} (h : Alt F) (X : List Po) (u : Po) (Y : List Po) (a : Rat) : F (X ++ (fun e => a * u e) :: Y) = a * F (X ++ u :: Y) := by
 have e := h.lin X u u Y a 0
 rw [show (fun e => a * u e + 0 * u e) = fun e => a * u e by funext e; grind] at e
 rw [e]; grind
theorem Alt.nil {F : List Po → Rat} (h : Alt F) (X Y : List Po) : F (X ++ (fun _ => 0) :: Y) = 0 := by
 have e := h.scale X (fun _ => 0) Y 0
 rw [show (fun e : Nat => (0 : Rat) * 0) = fun _ => 0 by funext e; grind] at e
 rw [e]; grind
theorem Alt.swap {F : List Po → Rat} (h : Alt F) (X : List Po) (u v : Po) (Y : List Po) : F (X ++ u :: v :: Y) = -F (X ++ v :: u :: Y) := by
 have e0 := h.alt X (fun e => 1 * u e + 1 * v e) [] Y
 have e1 := h.alt X u [] Y
 have e2 := h.alt X v [] Y
 simp only [List.nil_append] at e0 e1 e2
 rw [h.lin X u v _ 1 1] at e0
 have e3 := h.lin (X ++ [u]) u v Y 1 1
 have e4 := h.lin (X ++ [v]) u v Y 1 1
 simp only [List.append_assoc, List.singleton_append] at e3 e4
 rw [e3, e4, e1, e2] at e0
 grind
theorem Alt.add {F : List Po → Rat} (h : Alt F) (p : Po) (X Z : List Po) (q : Po) (Y : List Po) (a : Rat) : F (X ++ p :: (Z ++ (fun e => q e + a * p e) :: Y)) = F (X ++ p :: (Z ++ q :: Y)) := by
 have e := h.lin (X ++ p :: Z) q p Y 1 a
 rw [show (fun e => 1 * q e + a * p e) = fun e => q e + a * p e by funext e; grind] at e
 simp only [List.append_assoc, List.cons_append] at e
 rw [e, h.alt]; grind
theorem Alt.cons {F : List Po → Rat} (h : Alt F) (p : Po) : Alt (fun Y => F (p :: Y)) :=
 ⟨fun X u v Y a b => h.lin (p :: X) u v Y a b, fun X u Y Z => h.alt (p :: X) u Y Z⟩
def mo (k : Nat) : Po := fun e => if e = k then 1 else 0
def mons (cols : Nat → Nat) : Nat → List Po
 | 0 => []
 | n + 1 => mo (cols 0) :: mons (fun c => cols (c + 1)) n
theorem mons_move {F : List Po → Rat} (h : Alt F) : ∀ (j N : Nat) (cols : Nat → Nat) (Z : List Po), j ≤ N → F (Z ++ mo (cols j) :: mons (fun c => cols (sk j c)) N) = sg j * F (Z ++ mons cols (N + 1))
 | 0, N, cols, Z, _ => by
  rw [sg_zero, mons, show (fun c => cols (sk 0 c)) = fun c => cols (c + 1) by funext c; unfold sk; rw [if_neg (by omega)]]
  grind
 | j + 1, 0, cols, Z, hj => by omega
 | j + 1, N + 1, cols, Z, hj => by
  have ih := mons_move h j N (fun c => cols (c + 1)) (Z ++ [mo (cols 0)]) (by omega)
  simp only [List.append_assoc, List.singleton_append] at ih
  rw [mons, show cols (sk (j + 1) 0) = cols 0 by unfold sk; rw [if_pos (by omega)], h.swap]
  rw [show (fun c => cols (sk (j + 1) (c + 1))) = fun c => cols (sk j c + 1) by
   funext c; unfold sk
   by_cases hc : c < j
   · rw [if_pos hc, if_pos (by omega)]
   · rw [if_neg hc, if_neg (by omega)]]
  rw [ih, sg_succ, show mons cols (N + 1 + 1) = mo (cols 0) :: mons (fun c => cols (c + 1)) (N + 1) from rfl]
  grind
def kill (k : Nat) (q : Po) : Po := fun e => q e + (-(q k)) * mo k e
theorem alt_kill {F : List Po → Rat} (h : Alt F) (k : Nat) : ∀ (Y Z : List Po), F (mo k :: (Z ++ Y)) = F (mo k :: (Z ++ Y.map (kill k)))
 | [], Z => rfl
 | q :: Y, Z => by
  have e := h.add (mo k) [] Z q Y (-(q k))
  simp only [List.nil_append] at e
  rw [← e]
  have ih := alt_kill h k Y (Z ++ [kill k q])
  simp only [List.append_assoc, List.singleton_append] at ih
  exact ih
theorem alt_sum {F : List Po → Rat} (h : Alt F) (p : Po) (cols : Nat → Nat) (Y : List Po) : ∀ n, F ((fun e => sm (fun j => p (cols j) * mo (cols j) e) n) :: Y) = sm (fun j => p (cols j) * F (mo (cols j) :: Y)) n
 | 0 => h.nil [] Y
 | n + 1 => by
  have e := h.lin [] (fun e => sm (fun j => p (cols j) * mo (cols j) e) n) (mo (cols n)) Y 1 (p (cols n))
  simp only [List.nil_append] at e
  rw [alt_sum h p cols Y n] at e
  rw [show (fun e => sm (fun j => p (cols j) * mo (cols j) e) (n + 1)) = fun e => 1 * sm (fun j => p (cols j) * mo (cols j) e) n + p (cols n) * mo (cols n) e by funext e; rw [sm]; grind, e, sm]
  grind
theorem sum_mo (p : Po) (cols : Nat → Nat) : ∀ n, (∀ i j, i < n → j < n → cols i = cols j → i = j) → ∀ e, sm (fun j => p (cols j) * mo (cols j) e) n = if ∃ j, j < n ∧ cols j = e then p e else 0
 | 0, _, e => by rw [if_neg (by rintro ⟨j, hj, _⟩; omega)]; rfl
 | n + 1, hi, e => by
  rw [sm, sum_mo p cols n (fun i j h1 h2 => hi i j (by omega) (by omega)) e]
  by_cases h1 : cols n = e
  · rw [if_neg, if_pos ⟨n, by omega, h1⟩, h1]
    · unfold mo; rw [if_pos rfl]; grind
    · rintro ⟨j, hj, h2⟩
      have := hi j n (by omega) (by omega) (h2.trans h1.symm)
      omega
  · have h2 : mo (cols n) e = 0 := by unfold mo; rw [if_neg (fun h => h1 h.symm)]
    rw [h2]
    by_cases h3 : ∃ j, j < n ∧ cols j = e
    · obtain ⟨j, hj, h4⟩ := h3
      rw [if_pos ⟨j, hj, h4⟩, if_pos ⟨j, by omega, h4⟩]; grind
    · rw [if_neg h3, if_neg]
      · grind
      · rintro ⟨j, hj, h4⟩
        rcases Nat.lt_or_ge j n with h | h
        · exact h3 ⟨j, h, h4⟩
        · obtain rfl : j = n := by omega
          exact h1 h4
theorem sk_inj {j c d : Nat} (h : sk j c = sk j d) : c = d := by
 unfold sk at h
 split at h <;> split at h <;> omega
theorem sk_ne (j c : Nat) : sk j c ≠ j := by unfold sk; split <;> omega
theorem Dt_cons (p : Po) (Y : List Po) (cols : Nat → Nat) : Dt (p :: Y) cols = sm (fun j => sg j * p (cols j) * Dt Y (fun c => cols (sk j c))) (Y.length + 1) := rfl
theorem alt_det : ∀ (ps : List Po) (F : List Po → Rat) (cols : Nat → Nat), Alt F → (∀ i j, i < ps.length → j < ps.length → cols i = cols j → i = j) → (∀ p ∈ ps, ∀ e, (∀ j, j < ps.length → cols j ≠ e) → p e = 0) → F ps = Dt ps cols * F (mons cols ps.length)
 | [], F, cols, _, _, _ => by
  show F [] = 1 * F []
  grind
 | p :: Y, F, cols, h, hi, hs => by
  have e1 : p = fun e => sm (fun j => p (cols j) * mo (cols j) e) (Y.length + 1) := by
   funext e
   rw [sum_mo p cols (Y.length + 1) (fun i j h1 h2 => hi i j (by simpa using h1) (by simpa using h2)) e]
   by_cases h1 : ∃ j, j < Y.length + 1 ∧ cols j = e
   · rw [if_pos h1]
   · rw [if_neg h1]
     exact hs p (by simp) e fun j hj he => h1 ⟨j, by simpa using hj, he⟩
  have e2 : F (p :: Y) = sm (fun j => p (cols j) * F (mo (cols j) :: Y)) (Y.length + 1) := by
   have := alt_sum h p cols Y (Y.length + 1)
   rw [← e1] at this
   exact this
  rw [e2, Dt_cons, Rat.mul_comm, ← sm_mul]
  refine sm_congr fun j hj => ?_
  have e3 := alt_kill h (cols j) Y []
  simp only [List.nil_append] at e3
  have ih := alt_det (Y.map (kill (cols j))) (fun Z => F (mo (cols j) :: Z)) (fun c => cols (sk j c)) (h.cons _) (fun a b ha hb he => by
   rw [List.length_map] at ha hb
   refine sk_inj (hi _ _ ?_ ?_ he)
   · rw [List.length_cons]; exact sk_lt ha
   · rw [List.length_cons]; exact sk_lt hb) (fun q hq e he => by
   obtain ⟨q0, hq0, rfl⟩ := List.mem_map.1 hq
   rw [List.length_map] at he
   unfold kill mo
   by_cases h1 : e = cols j
   · rw [if_pos h1, h1]; grind
   · rw [if_neg h1, hs q0 (by simp [hq0]) e]
     · grind
     · intro i hi' h2
       rw [List.length_cons] at hi'
       by_cases h3 : i = j
       · exact h1 (by rw [← h2, h3])
       · by_cases h4 : i < j
         · exact he i (by omega) (by rw [show sk j i = i by unfold sk; rw [if_pos h4]]; exact h2)
         · exact he (i - 1) (by omega) (by rw [show sk j (i - 1) = i by unfold sk; rw [if_neg (by omega)]; omega]; exact h2))
  rw [List.length_map] at ih
  have e4 := mons_move h j Y.length cols [] (by omega)
  simp only [List.nil_append] at e4
  have e5 : Dt (Y.map (kill (cols j))) (fun c => cols (sk j c)) = Dt Y (fun c => cols (sk j c)) := by
   unfold Dt
   rw [List.length_map]
   refine det_congr fun r c hr hc => ?_
   have : rowAt (Y.map (kill (cols j))) r = kill (cols j) (rowAt Y r) := by
    simp [rowAt, List.getD_eq_getElem?_getD, List.getElem?_eq_getElem hr]
   rw [this]
   unfold kill mo
   rw [if_neg]
   · grind
   · intro he
     refine sk_ne j c (hi _ _ ?_ (by simpa using hj) he)
     rw [List.length_cons]; exact sk_lt hc
  rw [e3, ih, e4, e5, List.length_cons]
  grind
termination_by ps => ps.length
decreasing_by simp
def muP : List Int → Po → Po
 | [], _ => fun _ => 0
 | x :: f, p => fun e => (x : Rat) * p e + sh 1 (muP f p) e
theorem sh_zero' (i : Nat) : sh i (fun _ => 0) = fun _ => (0 : Rat) := by funext e; unfold sh; split <;> rfl
theorem sh_lin (i : Nat) (a b : Rat) (u v : Po) : sh i (fun e => a * u e + b * v e) = fun e => a * sh i u e + b * sh i v e := by
 funext e; unfold sh; split <;> grind
theorem muP_lin (a b : Rat) (u v : Po) : ∀ f : List Int, muP f (fun e => a * u e + b * v e) = fun e => a * muP f u e + b * muP f v e
 | [] => by funext e; simp only [muP]; grind
 | x :: f => by
  rw [muP, muP_lin a b u v f, sh_lin]
  funext e; simp only [muP]; grind
theorem muP_sh (i : Nat) (p : Po) : ∀ f : List Int, muP f (sh i p) = sh i (muP f p)
 | [] => by rw [muP, muP, sh_zero']
 | x :: f => by
  rw [muP, muP, muP_sh i p f, sh_sh]
  have h := sh_lin i (x : Rat) 1 p (sh 1 (muP f p))
  rw [show (fun e => (x : Rat) * p e + 1 * sh 1 (muP f p) e) = fun e => (x : Rat) * p e + sh 1 (muP f p) e by funext e; grind] at h
  rw [h, sh_sh, Nat.add_comm 1 i]
  funext e; grind
theorem muP_po (b : List Int) : ∀ a : List Int, muP a (po b) = po (mulL a b)
 | [] => by funext e; simp only [muP, po, mulL]; rw [cf_nil]; rfl
 | x :: a => by
  funext e
  rw [muP, muP_po b a]
  show (x : Rat) * ((cf b e : Int) : Rat) + (if 1 ≤ e then ((cf (mulL a b) (e - 1) : Int) : Rat) else 0) = ((cf (mulL (x :: a) b) e : Int) : Rat)
  cases e with
  | zero => rw [cf_mulL_zero, if_neg (by omega)]; push_cast; grind
  | succ e => rw [cf_mulL_succ, if_pos (by omega), Nat.add_sub_cancel]; push_cast; grind
theorem muP_mo (i : Nat) (a : List Int) : muP a (mo i) = sh i (po a) := by
 have h : mo i = sh i (po [1]) := by
  funext e
  unfold mo sh po
  by_cases h1 : e = i
  · rw [if_pos h1, if_pos (by omega), h1, Nat.sub_self]; rfl
  · rw [if_neg h1]
    by_cases h2 : i ≤ e
    · rw [if_pos h2]
      obtain ⟨k, hk⟩ : ∃ k, e - i = k + 1 := ⟨e - i - 1, by omega⟩
      rw [hk]; rfl
    · rw [if_neg h2]
 rw [h, muP_sh, muP_po]
 congr 1
 funext e
 unfold po
 rw [mulL_comm a [1] e, ← scL_eqp_mul 1 a e, cf_scL, Int.one_mul]
theorem shs_map (f : List Int) (p : Po) : ∀ k, (shs p k).map (muP f) = shs (muP f p) k
 | 0 => rfl
 | k + 1 => by rw [shs, List.map_cons, shs_map f p k, shs, muP_sh]
theorem mons_map (f : List Int) : ∀ (N top : Nat), N = top + 1 → (mons (fun c => top - c) N).map (muP f) = shs (po f) N
 | 1, 0, _ => by
  rw [mons, mons, shs, shs, List.map_cons, muP_mo]; rfl
 | N + 2, top + 1, h => by
  rw [mons, List.map_cons, muP_mo, shs]
  have : (fun c => top + 1 - (c + 1)) = fun c => top - c := by funext c; omega
  rw [this, mons_map f (N + 1) top (by omega)]
  congr 2
  omega
theorem colf_zero {N c : Nat} (h : c < N) : colf (N - 1) 0 N c = N - 1 - c := by
 unfold colf
 split
 · omega
 · rfl
theorem Dt_cols {L : List Po} {c1 c2 : Nat → Nat} (h : ∀ c, c < L.length → c1 c = c2 c) : Dt L c1 = Dt L c2 := by
 unfold Dt
 exact det_congr fun r c _ hc => by rw [h c hc]
theorem Dt_span_tail {X Y : List Po} {f : Po} (h : Sp Y f) (p : Po) (cols : Nat → Nat) : Dt (X ++ (fun e => p e + f e) :: Y) cols = Dt (X ++ p :: Y) cols := by
 induction h with
 | zero => rw [show (fun e => p e + (0 : Rat)) = p by funext e; grind]
 | add f q a hf hq ih =>
  have h := Dt_add (X := X) (Y := Y) (q := q) (.inr hq) (fun e => p e + f e) a cols
  rw [show (fun e => p e + (f e + a * q e)) = fun e => p e + f e + a * q e by funext e; grind]
  rw [h, ih]
theorem sp_neg {X : List Po} {f : Po} (h : Sp X f) : Sp X (fun e => -f e) := by
 induction h with
 | zero => rw [show (fun e : Nat => -(0 : Rat)) = fun _ => 0 by funext e; grind]; exact .zero
 | add f q a hf hq ih =>
  rw [show (fun e => -(f e + a * q e)) = fun e => -f e + (-a) * q e by funext e; grind]
  exact .add _ _ _ ih hq
theorem mul_lead (f c : List Int) (m : Nat) (hf : f.length = m + 1) : ∃ g, Sp (shs (po c) m) g ∧ po (mulL f c) = fun e => ((cf f m : Int) : Rat) * sh m (po c) e + g e := by
 refine ⟨_, sp_neg (sp_mul f c m), ?_⟩
 funext e
 have h1 : Eqp (f.take (m + 1)) (addL (f.take m) (moL m (cf f m))) := take_succ_eqp f m
 rw [List.take_of_length_le (by omega)] at h1
 have ht : cf (mulL f c) e = cf (mulL (f.take m) c) e + if m ≤ e then cf f m * cf c (e - m) else 0 := by
  rw [eqp_mulL_left c h1 e, mulL_addL_left _ _ _ e, cf_addL, cf_moL]
 unfold po
 rw [ht]
 unfold sh
 split
 · push_cast; grind
 · push_cast; grind
theorem lead_block (f c : List Int) (m : Nat) (hf : f.length = m + 1) (cols : Nat → Nat) : ∀ (k : Nat) (X : List Po), Dt (X ++ (shs (po (mulL f c)) k ++ shs (po c) m)) cols = ((cf f m : Int) : Rat) ^ k * Dt (X ++ shs (po c) (m + k)) cols
 | 0, X => by rw [shs, List.nil_append, Rat.pow_zero]; grind
 | k + 1, X => by
  have ih := lead_block f c m hf cols k (X ++ [sh k (po (mulL f c))])
  simp only [List.append_assoc, List.singleton_append] at ih
  rw [shs, List.cons_append, ih]
  obtain ⟨g, hg, he⟩ := mul_lead f c m hf
  have h2 : sh k (po (mulL f c)) = fun e => ((cf f m : Int) : Rat) * sh (m + k) (po c) e + sh k g e := by
   rw [he]
   have := sh_lin k ((cf f m : Int) : Rat) 1 (sh m (po c)) g
   rw [show (fun e => ((cf f m : Int) : Rat) * sh m (po c) e + 1 * g e) = fun e => ((cf f m : Int) : Rat) * sh m (po c) e + g e by funext e; grind] at this
   rw [this, sh_sh, Nat.add_comm k m]
   funext e; grind
  rw [h2, Dt_span_tail (sp_sh (i := k) hg), Dt_scale, Rat.pow_succ, ← Nat.add_assoc, shs]
  grind
theorem alt_form (f : List Int) (C : List Po) (cols : Nat → Nat) : Alt (fun ps => Dt (ps.map (muP f) ++ C) cols) := by
 refine ⟨fun X u v Y a b => ?_, fun X u Y Z => ?_⟩
 · simp only [List.map_append, List.map_cons, List.append_assoc, List.cons_append]
   rw [muP_lin, Dt_lin]
 · simp only [List.map_append, List.map_cons, List.append_assoc, List.cons_append]
   refine Dt_eq (p := X.length) (q := X.length + 1 + Y.length) (by simp) (by simp; omega) (by omega) ?_ cols
   have h1 : rowAt (X.map (muP f) ++ muP f u :: (Y.map (muP f) ++ muP f u :: (Z.map (muP f) ++ C))) X.length = muP f u := by
    have := rowAt_mid (X.map (muP f)) (muP f u) (Y.map (muP f) ++ muP f u :: (Z.map (muP f) ++ C))
    rwa [List.length_map] at this
   have h2 : rowAt (X.map (muP f) ++ muP f u :: (Y.map (muP f) ++ muP f u :: (Z.map (muP f) ++ C))) (X.length + 1 + Y.length) = muP f u := by
    have := rowAt_mid (X.map (muP f) ++ muP f u :: Y.map (muP f)) (muP f u) (Z.map (muP f) ++ C)
    rw [List.length_append, List.length_cons, List.length_map, List.length_map, show X.length + (Y.length + 1) = X.length + 1 + Y.length by omega, List.append_assoc, List.cons_append] at this
    exact this
   rw [h1, h2]
theorem su_mul {f g c : List Int} {m k n : Nat} (hf : f.length = m + 1) (hg : g.length = k + 1) (hc : c.length = n + 1) (f0 : cf f m ≠ 0) (hn : 1 ≤ n) (fg : List Int) (hfg : Eqp fg (mulL f g)) (hl : fg.length = m + k + 1) : Su fg c = Su f c * Su g c := by
 have e0 : ((cf f m : Int) : Rat) ≠ 0 := fun h => f0 (cast_zero.1 h)
 obtain ⟨N, hN⟩ : ∃ N, N = k + n := ⟨_, rfl⟩
 obtain ⟨COLS, hC⟩ : ∃ C, C = colf (m + k + n - 1) 0 (m + k + n) := ⟨_, rfl⟩
 have pfg : po fg = po (mulL f g) := by funext e; unfold po; rw [hfg e]
 have h1 : Dt ((shs (po g) n ++ shs (po c) k).map (muP f) ++ shs (po c) m) COLS = ((cf f m : Int) : Rat) ^ k * Su fg c := by
  rw [List.map_append, shs_map, shs_map, muP_po, muP_po, List.append_assoc, lead_block f c m hf, Su, Sub, hl, hc, pfg, hC]
  simp only [Nat.add_sub_cancel, Nat.sub_zero, Nat.mul_zero]
 have hlen : (shs (po g) n ++ shs (po c) k).length = N := by rw [List.length_append, shs_len, shs_len, hN]; omega
 have h2 := alt_det (shs (po g) n ++ shs (po c) k) (fun ps => Dt (ps.map (muP f) ++ shs (po c) m) COLS) (fun c => N - 1 - c) (alt_form f (shs (po c) m) COLS) (fun i j hi hj he => by
  rw [hlen] at hi hj
  have : N - 1 - i = N - 1 - j := he
  omega) (fun q hq e he => by
  rw [hlen] at he
  have hge : N ≤ e := by
   rcases Nat.lt_or_ge e N with h | h
   · exact absurd (show N - 1 - (N - 1 - e) = e by omega) (he (N - 1 - e) (by omega))
   · exact h
  rcases List.mem_append.1 hq with h | h
  · obtain ⟨i, hi, rfl⟩ := mem_shs.1 h
    exact sh_top (n := k) (fun e he => po_ge (by omega)) i e (by omega)
  · obtain ⟨i, hi, rfl⟩ := mem_shs.1 h
    exact sh_top (n := n) (fun e he => po_ge (by omega)) i e (by omega))
 rw [hlen] at h2
 have h3 : Dt (shs (po g) n ++ shs (po c) k) (fun c => N - 1 - c) = Su g c := by
  rw [Su, Sub, hg, hc]
  simp only [Nat.add_sub_cancel, Nat.sub_zero, Nat.mul_zero]
  rw [← hN]
  refine Dt_cols fun i hi => ?_
  rw [hlen] at hi
  exact (colf_zero hi).symm
 have h4 : Dt ((mons (fun c => N - 1 - c) N).map (muP f) ++ shs (po c) m) COLS = ((cf f m : Int) : Rat) ^ k * Su f c := by
  rw [mons_map f N (N - 1) (by omega)]
  have h5 := tri (B := po f) (n := m) (fun e he => po_ge (by omega)) (Y := shs (po c) m) 0 k N (m + k + n) (by omega) (by omega) fun q hq e he => by
   obtain ⟨i, hi, rfl⟩ := mem_shs.1 hq
   exact sh_top (n := n) (fun e he => po_ge (by omega)) i e (by omega)
  rw [show m + N - 1 = m + k + n - 1 by omega, ← hC] at h5
  rw [h5, Su, Sub, hf, hc, show N - k = n by omega, show m + k + n - 1 - k = m + n - 1 by omega, show m + k + n - k = m + n by omega]
  rfl
 have h6 : ((cf f m : Int) : Rat) ^ k * (Su fg c - Su f c * Su g c) = 0 := by
  have h2' : Dt ((shs (po g) n ++ shs (po c) k).map (muP f) ++ shs (po c) m) COLS = Su g c * (((cf f m : Int) : Rat) ^ k * Su f c) := by
   rw [← h3, ← h4]; exact h2
  rw [h1] at h2'
  grind
 rcases Rat.mul_eq_zero.1 h6 with h | h
 · exact absurd h (pow_ne e0 k)
 · grind
end Go.Dt
