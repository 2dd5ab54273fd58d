/- How great a factor's coefficients may be: an inequality of norms, by operators. -/
import Derived.Test.YtfdjbmamidmgfaaGreatPA
set_option linter.unusedVariables false
namespace Go.Py
abbrev Sq := Nat → Int
def su (f : Nat → Int) : Nat → Int
 | 0 => 0
 | n + 1 => su f n + f n
theorem su_congr {f g : Nat → Int} : ∀ {n : Nat}, (∀ i, i < n → f i = g i) → su f n = su g n
 | 0, _ => rfl
 | n + 1, h => by rw [su, su, su_congr fun i hi => h i (by omega), h n (by omega)]
theorem su_zero {f : Nat → Int} : ∀ {n : Nat}, (∀ i, i < n → f i = 0) → su f n = 0
 | 0, _ => rfl
 | n + 1, h => by rw [su, su_zero fun i hi => h i (by omega), h n (by omega)]; rfl
theorem su_add (f g : Nat → Int) : ∀ n, su (fun i => f i + g i) n = su f n + su g n
 | 0 => rfl
 | n + 1 => by rw [su, su, su, su_add f g n]; omega
theorem su_mul (a : Int) (f : Nat → Int) : ∀ n, su (fun i => a * f i) n = a * su f n
 | 0 => by simp [su]
 | n + 1 => by rw [su, su, su_mul a f n, Int.mul_add]
theorem su_head (f : Nat → Int) : ∀ n, su f (n + 1) = f 0 + su (fun i => f (i + 1)) n
 | 0 => by simp [su]
 | n + 1 => by rw [su, su_head f n, su]; omega
theorem su_le {f g : Nat → Int} : ∀ {n : Nat}, (∀ i, i < n → f i ≤ g i) → su f n ≤ su g n
 | 0, _ => Int.le_refl _
 | n + 1, h => by
  rw [su, su]
  have := su_le (f := f) (g := g) (n := n) fun i hi => h i (by omega)
  have := h n (by omega)
  omega
theorem su_nonneg {f : Nat → Int} {n : Nat} (h : ∀ i, i < n → 0 ≤ f i) : 0 ≤ su f n := by
 have := su_le (f := fun _ => 0) (g := f) (n := n) h
 rwa [su_zero fun _ _ => rfl] at this
theorem su_one {f : Nat → Int} {n j : Nat} (hj : j < n) (h : ∀ i, i < n → 0 ≤ f i) : f j ≤ su f n := by
 induction n with
 | zero => omega
 | succ n ih =>
  rw [su]
  by_cases e : j = n
  · subst e
    have := su_nonneg (f := f) (n := j) fun i hi => h i (by omega)
    omega
  · have := ih (by omega) fun i hi => h i (by omega)
    have := h n (by omega)
    omega
def fa : Nat → Int
 | 0 => 1
 | n + 1 => (n + 1) * fa n
theorem fa_pos : ∀ n, 0 < fa n
 | 0 => by decide
 | n + 1 => by rw [fa]; exact Int.mul_pos (by omega) (fa_pos n)
def ip (M : Nat) (f g : Sq) : Int := su (fun k => fa k * (f k * g k)) M
def Xo (f : Sq) : Sq := fun k => match k with | 0 => 0 | k + 1 => f k
def Do (f : Sq) : Sq := fun k => ((k : Int) + 1) * f (k + 1)
theorem ip_comm (M : Nat) (f g : Sq) : ip M f g = ip M g f := su_congr fun k _ => by rw [Int.mul_comm (f k)]
theorem ip_add (M : Nat) (f g h : Sq) : ip M (fun k => f k + g k) h = ip M f h + ip M g h := by
 unfold ip; rw [← su_add]; exact su_congr fun k _ => by grind
theorem ip_sc (M : Nat) (c : Int) (f h : Sq) : ip M (fun k => c * f k) h = c * ip M f h := by
 unfold ip; rw [← su_mul]; exact su_congr fun k _ => by grind
theorem ip_zero (M : Nat) (h : Sq) : ip M (fun _ => 0) h = 0 := su_zero fun k _ => by grind
def Sp' (s : Nat) (f : Sq) : Prop := ∀ k, s ≤ k → f k = 0
theorem ip_adj {M : Nat} (f : Sq) {g : Sq} (hg : Sp' M g) : ip M (Xo f) g = ip M f (Do g) := by
 cases M with
 | zero => rfl
 | succ M =>
  unfold ip
  rw [su_head, su]
  have h1 : g (M + 1) = 0 := hg _ (Nat.le_refl _)
  have h2 : fa M * (f M * Do g M) = 0 := by unfold Do; rw [h1]; simp
  have h3 : fa 0 * (Xo f 0 * g 0) = 0 := by simp [Xo]
  rw [h2, h3, Int.zero_add, Int.add_zero]
  refine su_congr fun k _ => ?_
  simp only [Xo, Do, fa]
  grind
def aX : List Int → Sq → Sq
 | [], _ => fun _ => 0
 | c :: a, f => fun k => c * f k + Xo (aX a f) k
def To : Nat → List Int → Sq → Sq
 | _, [], _ => fun _ => 0
 | 0, c :: a, f => fun k => c * f k + Do (To 0 a f) k
 | r + 1, c :: a, f => fun k => Do (To (r + 1) a f) k + To r a f k
theorem Do_add (f g : Sq) : Do (fun k => f k + g k) = fun k => Do f k + Do g k := by funext k; unfold Do; grind
theorem Do_sc (c : Int) (f : Sq) : Do (fun k => c * f k) = fun k => c * Do f k := by funext k; unfold Do; grind
theorem Do_zero : Do (fun _ => 0) = fun _ => 0 := by funext k; unfold Do; grind
theorem Xo_add (f g : Sq) : Xo (fun k => f k + g k) = fun k => Xo f k + Xo g k := by funext k; cases k <;> simp [Xo]
theorem Do_Xo (f : Sq) : Do (Xo f) = fun k => f k + Xo (Do f) k := by
 funext k
 cases k with
 | zero => simp [Do, Xo]
 | succ k =>
  simp only [Do, Xo]
  have : ((k + 1 : Nat) : Int) = (k : Int) + 1 := by omega
  rw [this]; grind
theorem aX_addL (f : Sq) : ∀ (a b : List Int), aX (addL a b) f = fun k => aX a f k + aX b f k
 | [], b => by simp [addL, aX]
 | c :: a, [] => by simp [addL, aX]
 | c :: a, d :: b => by
  rw [addL, aX, aX_addL f a b, Xo_add]
  funext k
  simp only [aX]
  grind
theorem To_addL (f : Sq) : ∀ (a b : List Int) (r : Nat), To r (addL a b) f = fun k => To r a f k + To r b f k
 | [], b, r => by cases r <;> simp [addL, To]
 | c :: a, [], r => by cases r <;> simp [addL, To]
 | c :: a, d :: b, 0 => by
  rw [addL, To, To_addL f a b 0, Do_add]
  funext k; simp only [To]; grind
 | c :: a, d :: b, r + 1 => by
  rw [addL, To, To_addL f a b (r + 1), To_addL f a b r, Do_add]
  funext k; simp only [To]; grind
theorem Do_To (f : Sq) : ∀ (a : List Int) (r : Nat), Do (To r a f) = To r a (Do f)
 | [], r => by cases r <;> simp [To, Do_zero]
 | c :: a, 0 => by rw [To, Do_add, Do_sc, Do_To f a 0, To]
 | c :: a, r + 1 => by rw [To, Do_add, Do_To f a (r + 1), Do_To f a r, To, Do_To (Do f) a (r + 1)]
theorem Do_aX (f : Sq) : ∀ a : List Int, Do (aX a f) = fun k => aX a (Do f) k + aX (deL a) f k
 | [] => by simp [aX, deL, Do_zero]
 | c :: a => by
  rw [aX, Do_add, Do_sc, Do_Xo, Do_aX f a, Xo_add, deL, aX_addL]
  funext k
  simp only [aX]
  grind
theorem To_de (f : Sq) : ∀ (a : List Int) (r : Nat), To r (deL a) f = fun k => ((r : Int) + 1) * To (r + 1) a f k
 | [], r => by cases r <;> simp [To, deL]
 | c :: a, 0 => by
  rw [deL, To_addL, To, To_de f a 0, Do_sc]
  funext k
  simp only [To]
  grind
 | c :: a, r + 1 => by
  rw [deL, To_addL, To, To_de f a (r + 1), To_de f a r, Do_sc]
  funext k
  simp only [To]
  have : ((r + 1 : Nat) : Int) = (r : Int) + 1 := by omega
  rw [this]; grind
theorem sp_Do {s : Nat} {f : Sq} (h : Sp' s f) : Sp' s (Do f) := fun k hk => by unfold Do; rw [h _ (by omega)]; simp
theorem sp_aX {s : Nat} {f : Sq} (h : Sp' s f) : ∀ (a : List Int) (t : Nat), a.length ≤ t → Sp' (t + s) (aX a f)
 | [], t, _ => fun k _ => rfl
 | c :: a, t, ht => fun k hk => by
  obtain ⟨t', rfl⟩ : ∃ t', t = t' + 1 := ⟨t - 1, by simp at ht; omega⟩
  obtain ⟨k', rfl⟩ : ∃ k', k = k' + 1 := ⟨k - 1, by omega⟩
  have := sp_aX h a t' (by simpa using ht) k' (by omega)
  simp only [aX, Xo]
  rw [this, h _ (by omega)]; simp
theorem deL_len : ∀ a : List Int, (deL a).length ≤ a.length
 | [] => Nat.le_refl _
 | c :: a => by
  have h2 : ∀ a b : List Int, (addL a b).length = max a.length b.length := by
   intro a
   induction a with
   | nil => intro b; cases b <;> simp [addL]
   | cons x a ih => intro b; cases b with
    | nil => simp [addL]
    | cons y b => simp [addL, ih]
  have := deL_len a
  rw [deL, h2]
  simp only [List.length_cons]
  omega
theorem ip_first {M : Nat} (g : Sq) : ∀ (a : List Int) (f : Sq), Sp' M f → ip M f (aX a g) = ip M (To 0 a f) g
 | [], f, _ => by rw [aX, To, ip_comm, ip_zero, ip_zero]
 | c :: a, f, hf => by
  have ih := ip_first g a (Do f) (sp_Do hf)
  rw [To, ip_comm, aX, ip_add, ip_add, ip_sc, ip_sc, ip_adj _ hf, Do_To, ← ih, ip_comm M g f, ip_comm M (aX a g)]
theorem ip_main {M : Nat} (R : Nat) : ∀ (a a' : List Int) (b b' : Sq) (s t : Nat), a.length ≤ R → Sp' M b → Sp' s b' → a'.length ≤ t → t + s ≤ M →
 ip M (aX a b) (aX a' b') = su (fun r => fa r * ip M (To r a b') (To r a' b)) R
 | [], a', b, b', s, t, _, _, _, _, _ => by
  rw [aX, ip_zero, su_zero fun r _ => ?_]
  cases r <;> simp only [To] <;> rw [ip_zero, Int.mul_zero]
 | c :: a, a', b, b', s, t, hR, hb, hb', hl, hM => by
  obtain ⟨R', rfl⟩ : ∃ R', R = R' + 1 := ⟨R - 1, by simp at hR; omega⟩
  have hR' : a.length ≤ R' := by simpa using hR
  have hsp : Sp' M (aX a' b') := fun k hk => sp_aX hb' a' t hl k (by omega)
  have i1 := ip_main (R' + 1) a a' b (Do b') s t (by omega) hb (sp_Do hb') hl hM
  have i2 := ip_main R' a (deL a') b b' s t hR' hb hb' (Nat.le_trans (deL_len a') hl) hM
  have i3 := ip_first (M := M) b' a' b hb
  rw [aX, ip_add, ip_sc, ip_adj _ hsp, Do_aX, ip_comm M (aX a b), ip_add, ip_comm M (aX a' (Do b')), ip_comm M (aX (deL a') b'), i1, i2, i3]
  rw [su_head, su_head]
  have e0 : fa 0 * ip M (To 0 (c :: a) b') (To 0 a' b) = c * ip M (To 0 a' b) b' + fa 0 * ip M (To 0 a (Do b')) (To 0 a' b) := by
   rw [To, ip_add, ip_sc, Do_To, ip_comm M b']
   simp only [fa]; omega
  have e1 : su (fun i => fa (i + 1) * ip M (To (i + 1) (c :: a) b') (To (i + 1) a' b)) R' = su (fun i => fa (i + 1) * ip M (To (i + 1) a (Do b')) (To (i + 1) a' b)) R' + su (fun r => fa r * ip M (To r a b') (To r (deL a') b)) R' := by
   rw [← su_add]
   refine su_congr fun r _ => ?_
   have e3 : ip M (To r a b') (fun k => ((r : Int) + 1) * To (r + 1) a' b k) = ((r : Int) + 1) * ip M (To r a b') (To (r + 1) a' b) := by
    rw [ip_comm, ip_sc, ip_comm]
   rw [To, ip_add, Do_To, To_de, e3]
   simp only [fa]
   grind
  rw [e0, e1]
  omega
theorem To_top (f : Sq) : ∀ (a : List Int) (r : Nat), a.length ≤ r → To r a f = fun _ => 0
 | [], r, _ => by cases r <;> rfl
 | c :: a, 0, h => by simp at h
 | c :: a, r + 1, h => by
  rw [To, To_top f a (r + 1) (by simp at h; omega), To_top f a r (by simpa using h), Do_zero]
  rfl
theorem To_lead (f : Sq) : ∀ (a : List Int) (m : Nat), a.length = m + 1 → To m a f = fun k => cf a m * f k
 | c :: a, 0, h => by
  have : a = [] := List.eq_nil_of_length_eq_zero (by simpa using h)
  subst this
  simp [To, Do_zero]
 | c :: a, m + 1, h => by
  rw [To, To_top f a (m + 1) (by simp at h; omega), To_lead f a m (by simpa using h), Do_zero]
  funext k
  simp
theorem ip_nonneg (M : Nat) (f : Sq) : 0 ≤ ip M f f := su_nonneg fun k _ => Int.mul_nonneg (Int.le_of_lt (fa_pos k)) (by rcases Int.le_total 0 (f k) with h | h; exact Int.mul_nonneg h h; exact Int.mul_nonneg_of_nonpos_of_nonpos h h)
theorem ip_ineq {a : List Int} {m n M : Nat} (ha : a.length = m + 1) {f : Sq} (hf : Sp' (n + 1) f) (hM : m + n + 2 ≤ M) : fa m * (cf a m * cf a m) * ip M f f ≤ ip M (aX a f) (aX a f) := by
 rw [ip_main (m + 1) a a f f (n + 1) (m + 1) (by omega) (fun k hk => hf k (by omega)) hf (by omega) (by omega)]
 have h := su_one (f := fun r => fa r * ip M (To r a f) (To r a f)) (n := m + 1) (j := m) (by omega) fun r _ => Int.mul_nonneg (Int.le_of_lt (fa_pos r)) (ip_nonneg M _)
 have e : fa m * ip M (To m a f) (To m a f) = fa m * (cf a m * cf a m) * ip M f f := by
  rw [To_lead f a m ha, ip_sc, ip_comm, ip_sc]; grind
 rw [← e]
 exact h
theorem aX_mul (b : List Int) : ∀ a : List Int, aX a (cf b) = cf (mulL a b)
 | [] => by funext k; simp [aX, mulL]
 | x :: a => by
  rw [aX, aX_mul b a]
  funext k
  cases k with
  | zero => rw [cf_mulL_zero]; simp [Xo]
  | succ k => rw [cf_mulL_succ]; simp [Xo]
def sca (s : Int) : List Int → List Int
 | [] => []
 | c :: l => c * s ^ l.length :: sca s l
theorem sca_len (s : Int) : ∀ l : List Int, (sca s l).length = l.length
 | [] => rfl
 | c :: l => by rw [sca, List.length_cons, List.length_cons, sca_len s l]
theorem cf_sca (s : Int) : ∀ (l : List Int) (i : Nat), s ^ (i + 1) * cf (sca s l) i = s ^ l.length * cf l i
 | [], i => by simp [sca]
 | c :: l, 0 => by rw [sca, cf_zero, cf_zero, List.length_cons, Int.pow_succ, Int.pow_succ]; grind
 | c :: l, i + 1 => by
  rw [sca, cf_succ, cf_succ, List.length_cons, Int.pow_succ, Int.pow_succ s l.length]
  have := cf_sca s l i
  grind
theorem cf_sca_mul (s : Int) (b : List Int) : ∀ (a : List Int) (k : Nat), s ^ (k + 2) * cf (mulL (sca s a) (sca s b)) k = s ^ (a.length + b.length) * cf (mulL a b) k
 | [], k => by simp [sca, mulL]
 | x :: a, 0 => by
  have := cf_sca s b 0
  rw [Nat.zero_add, Int.pow_one] at this
  rw [sca, cf_mulL_zero, cf_mulL_zero, List.length_cons, show a.length + 1 + b.length = a.length + b.length + 1 by omega, Int.pow_succ, Int.pow_succ, Int.pow_add]
  grind
 | x :: a, k + 1 => by
  have h1 := cf_sca s b (k + 1)
  have h2 := cf_sca_mul s b a k
  rw [sca, cf_mulL_succ, cf_mulL_succ, List.length_cons, show a.length + 1 + b.length = a.length + b.length + 1 by omega, show k + 1 + 2 = (k + 2) + 1 by omega, Int.pow_succ, Int.pow_succ s (a.length + b.length), Int.pow_add]
  rw [Int.pow_add] at h2
  grind
theorem pow_cancel {s x y : Int} {k : Nat} (hs : 0 < s) (h : s ^ k * x = s ^ k * y) : x = y := Int.eq_of_mul_eq_mul_left (Int.ne_of_gt (Int.pow_pos hs)) h
theorem pow_cancel_le {s x y : Int} {k : Nat} (hs : 0 < s) (h : s ^ k * x ≤ s ^ k * y) : x ≤ y := Int.le_of_mul_le_mul_left h (Int.pow_pos hs)
def okB (m n : Nat) (s : Int) : Bool := (List.range (m + n + 1)).all (fun k => decide (fa k ≤ s ^ (2 * k))) && (List.range (n + 1)).all (fun j => decide (s ^ (2 * (m + j)) ≤ 4 ^ (m + n) * (fa m * fa j)))
def sOf (N : Nat) : Int := if N ≤ 8 then 2 else if N ≤ 21 then 3 else 4
theorem okB_all : (List.range 25).all (fun m => (List.range (25 - m)).all fun n => okB m n (sOf (m + n))) = true := by decide +kernel
theorem okB_at {m n : Nat} (h : m + n ≤ 24) : okB m n (sOf (m + n)) = true := by
 have h1 := List.all_eq_true.1 okB_all m (by simp; omega)
 exact List.all_eq_true.1 h1 n (by simp; omega)
theorem sq_nonneg' (x : Int) : 0 ≤ x * x := by rcases Int.le_total 0 x with h | h; exact Int.mul_nonneg h h; exact Int.mul_nonneg_of_nonpos_of_nonpos h h
theorem fac_bound {a b : List Int} {m n : Nat} (ha : a.length = m + 1) (hb : b.length = n + 1) (hN : m + n ≤ 24) (h0 : cf a m ≠ 0) (j : Nat) :
 cf b j * cf b j ≤ 4 ^ (m + n) * su (fun k => cf (mulL a b) k * cf (mulL a b) k) (m + n + 1) := by
 have hok := okB_at hN
 obtain ⟨s, hs⟩ : ∃ s, s = sOf (m + n) := ⟨_, rfl⟩
 have hs0 : 0 < s := by rw [hs]; unfold sOf; split <;> (try split) <;> decide
 rw [← hs] at hok
 simp only [okB, Bool.and_eq_true, List.all_eq_true, List.mem_range, decide_eq_true_eq] at hok
 obtain ⟨hk, hjj⟩ := hok
 have hSn : 0 ≤ su (fun k => cf (mulL a b) k * cf (mulL a b) k) (m + n + 1) := su_nonneg fun k _ => sq_nonneg' _
 by_cases hj : n < j
 · rw [cf_ge (by omega), Int.zero_mul]
   exact Int.mul_nonneg (Int.le_of_lt (Int.pow_pos (by decide))) hSn
 have hA : cf (sca s a) m = cf a m := by
  have := cf_sca s a m
  rw [ha] at this
  exact pow_cancel hs0 this
 have hBf : Sp' (n + 1) (cf (sca s b)) := fun k hk => cf_ge (by rw [sca_len]; omega)
 have hI := ip_ineq (a := sca s a) (m := m) (n := n) (M := m + n + 2) (by rw [sca_len, ha]) hBf (Nat.le_refl _)
 rw [aX_mul, hA] at hI
 have hBj : cf (sca s b) j = s ^ (n - j) * cf b j := by
  have h1 := cf_sca s b j
  have e : s ^ (n + 1) = s ^ (j + 1) * s ^ (n - j) := by rw [← Int.pow_add]; congr 1; omega
  rw [hb, e, Int.mul_assoc] at h1
  exact pow_cancel hs0 h1
 have hCk : ∀ k, k < m + n + 1 → cf (mulL (sca s a) (sca s b)) k = s ^ (m + n - k) * cf (mulL a b) k := fun k hk => by
  have h1 := cf_sca_mul s b a k
  have e : s ^ (m + 1 + (n + 1)) = s ^ (k + 2) * s ^ (m + n - k) := by rw [← Int.pow_add]; congr 1; omega
  rw [ha, hb, e, Int.mul_assoc] at h1
  exact pow_cancel hs0 h1
 have hClast : cf (mulL (sca s a) (sca s b)) (m + n + 1) = 0 := (cf_mulL_top (sca s a) (sca s b) m n (fun i hi => cf_ge (by rw [sca_len]; omega)) (fun i hi => cf_ge (by rw [sca_len]; omega))).2 _ (by omega)
 have hup : ip (m + n + 2) (cf (mulL (sca s a) (sca s b))) (cf (mulL (sca s a) (sca s b))) ≤ s ^ (2 * (m + n)) * su (fun k => cf (mulL a b) k * cf (mulL a b) k) (m + n + 1) := by
  rw [ip, su, hClast, Int.mul_zero, Int.mul_zero, Int.add_zero, ← su_mul]
  refine su_le fun k hk' => ?_
  rw [hCk k hk']
  have h1 := hk k hk'
  have e : fa k * (s ^ (m + n - k) * cf (mulL a b) k * (s ^ (m + n - k) * cf (mulL a b) k)) = fa k * (s ^ (2 * (m + n - k)) * (cf (mulL a b) k * cf (mulL a b) k)) := by
   rw [show 2 * (m + n - k) = (m + n - k) + (m + n - k) by omega, Int.pow_add]; grind
  rw [e, show 2 * (m + n) = 2 * k + 2 * (m + n - k) by omega, Int.pow_add, Int.mul_assoc]
  exact Int.mul_le_mul_of_nonneg_right h1 (Int.mul_nonneg (Int.le_of_lt (Int.pow_pos hs0)) (sq_nonneg' _))
 have hlow : fa m * (fa j * (s ^ (2 * (n - j)) * (cf b j * cf b j))) ≤ fa m * (cf a m * cf a m) * ip (m + n + 2) (cf (sca s b)) (cf (sca s b)) := by
  have h1 := su_one (f := fun k => fa k * (cf (sca s b) k * cf (sca s b) k)) (n := m + n + 2) (j := j) (by omega) fun k _ => Int.mul_nonneg (Int.le_of_lt (fa_pos k)) (sq_nonneg' _)
  have h1' : fa j * (cf (sca s b) j * cf (sca s b) j) ≤ ip (m + n + 2) (cf (sca s b)) (cf (sca s b)) := h1
  rw [hBj] at h1'
  have e : fa j * (s ^ (n - j) * cf b j * (s ^ (n - j) * cf b j)) = fa j * (s ^ (2 * (n - j)) * (cf b j * cf b j)) := by
   rw [show 2 * (n - j) = (n - j) + (n - j) by omega, Int.pow_add]; grind
  rw [e] at h1'
  have h2 : 1 ≤ cf a m * cf a m := by
   have := sq_nonneg' (cf a m)
   have : cf a m * cf a m ≠ 0 := Int.mul_ne_zero h0 h0
   omega
  have h3 := ip_nonneg (m + n + 2) (cf (sca s b))
  have h4 : ip (m + n + 2) (cf (sca s b)) (cf (sca s b)) ≤ (cf a m * cf a m) * ip (m + n + 2) (cf (sca s b)) (cf (sca s b)) := by
   have := Int.mul_le_mul_of_nonneg_right h2 h3
   omega
  rw [Int.mul_assoc]
  exact Int.mul_le_mul_of_nonneg_left (Int.le_trans h1' h4) (Int.le_of_lt (fa_pos m))
 have hall := Int.le_trans hlow (Int.le_trans hI hup)
 have e2 : s ^ (2 * (m + n)) * su (fun k => cf (mulL a b) k * cf (mulL a b) k) (m + n + 1) = s ^ (2 * (n - j)) * (s ^ (2 * (m + j)) * su (fun k => cf (mulL a b) k * cf (mulL a b) k) (m + n + 1)) := by
  rw [← Int.mul_assoc, ← Int.pow_add]; congr 2; omega
 have e3 : fa m * (fa j * (s ^ (2 * (n - j)) * (cf b j * cf b j))) = s ^ (2 * (n - j)) * (fa m * fa j * (cf b j * cf b j)) := by grind
 rw [e2, e3] at hall
 have h5 := pow_cancel_le hs0 hall
 have h6 := Int.mul_le_mul_of_nonneg_right (hjj j (by omega)) hSn
 have h7 := Int.le_trans h5 h6
 have hp : 0 < fa m * fa j := Int.mul_pos (fa_pos m) (fa_pos j)
 refine Int.le_of_mul_le_mul_left (a := fa m * fa j) ?_ hp
 refine Int.le_trans h7 (Int.le_of_eq ?_)
 grind
end Go.Py
