/- Transforms: the values of a polynomial at the powers of a root of unity. -/
import Derived.Test.YtgnngifnoaagjaaMath4
import Derived.Test.YtgnngifnoaagjaaPlain3
set_option linter.unusedSectionVars false
namespace Go.Proofs.Ytgnngifnoaagjaa.Q
open Go.Proofs.Ytgnngifnoaagjaa
section
variable {p : Nat} [NeZero p]

theorem pow_add' (x : Fin p) (a b : Nat) : x ^ (a + b) = x ^ a * x ^ b := by
  induction b with
  | zero => rw [Nat.add_zero]; grind
  | succ b ih => rw [← Nat.add_assoc, show x ^ (a + b + 1) = x ^ (a + b) * x by grind, ih]; grind
theorem pow_mul' (x : Fin p) (a b : Nat) : x ^ (a * b) = (x ^ a) ^ b := by
  induction b with
  | zero => rw [Nat.mul_zero]; grind
  | succ b ih => rw [Nat.mul_succ, pow_add', ih]; grind
theorem one_pow' (a : Nat) : (1 : Fin p) ^ a = 1 := by
  induction a with
  | zero => grind
  | succ a ih => rw [show (1 : Fin p) ^ (a + 1) = 1 ^ a * 1 by grind, ih]; grind
theorem mul_pow' (x y : Fin p) (a : Nat) : (x * y) ^ a = x ^ a * y ^ a := by
  induction a with
  | zero => grind
  | succ a ih => rw [show (x * y) ^ (a + 1) = (x * y) ^ a * (x * y) by grind, ih]; grind
theorem pow_one' (x : Fin p) : x ^ 1 = x := by grind

/-- w is a root of unity of the order 2^k, exactly. -/
def Rt (w : Fin p) : Nat → Prop
  | 0 => w = 1
  | k + 1 => w ^ (2 ^ k) = -1
theorem Rt.sq {w : Fin p} {k : Nat} (h : Rt w (k + 1)) : Rt (w * w) k := by
  cases k with
  | zero => show w * w = 1; have h0 : w ^ 1 = -1 := h; rw [pow_one'] at h0; rw [h0]; grind
  | succ k =>
    show (w * w) ^ (2 ^ k) = -1
    have h0 : w ^ (2 ^ (k + 1)) = -1 := h
    rw [mul_pow', ← pow_add', ← h0]; congr 1; omega
theorem Rt.one {w : Fin p} {k : Nat} (h : Rt w k) : w ^ (2 ^ k) = 1 := by
  cases k with
  | zero => have h0 : w = 1 := h; rw [h0, one_pow']
  | succ k =>
    have h0 : w ^ (2 ^ k) = -1 := h
    rw [Nat.pow_succ, pow_mul', h0]; grind

theorem ev_even_odd (f : S p) (x : Fin p) : ∀ n, ev (n + n) f x = ev n (fun t => f (2 * t)) (x * x) + x * ev n (fun t => f (2 * t + 1)) (x * x) := by
  intro n
  induction n generalizing f with
  | zero => simp only [ev]; grind
  | succ n ih =>
    have h := ih (tl (tl f))
    have a1 : ev (n + n + 1 + 1) f x = f 0 + x * (tl f 0 + x * ev (n + n) (tl (tl f)) x) := rfl
    have b1 : ev (n + 1) (fun t => f (2 * t)) (x * x) = f 0 + (x * x) * ev n (fun t => tl (tl f) (2 * t)) (x * x) := rfl
    have b2 : ev (n + 1) (fun t => f (2 * t + 1)) (x * x) = tl f 0 + (x * x) * ev n (fun t => tl (tl f) (2 * t + 1)) (x * x) := rfl
    rw [show n + 1 + (n + 1) = (n + n) + 1 + 1 by omega]
    refine a1.trans ?_
    rw [h]
    refine Eq.trans ?_ (congr (congrArg HAdd.hAdd b1.symm) (congrArg (x * ·) b2.symm))
    show f 0 + x * (tl f 0 + x * (ev n (fun t => tl (tl f) (2 * t)) (x * x) + x * ev n (fun t => tl (tl f) (2 * t + 1)) (x * x))) = f 0 + (x * x) * ev n (fun t => tl (tl f) (2 * t)) (x * x) + x * (tl f 0 + (x * x) * ev n (fun t => tl (tl f) (2 * t + 1)) (x * x))
    grind
theorem cf_tab_eq (n : Nat) (R : Nat → Nat) (t : Nat) (h : t < n) : cf p (tab n R) t = F p (R t) := by unfold cf; rw [tab_get n R t h]
theorem ev_congr {f g : S p} (x : Fin p) : ∀ n, (∀ t, t < n → f t = g t) → ev n f x = ev n g x := by
  intro n
  induction n generalizing f g with
  | zero => intro _; rfl
  | succ n ih => intro h; rw [ev, ev, h 0 (by omega), ih (f := tl f) (g := tl g) (fun t ht => h (t + 1) (by omega))]

/-- The fast transform yields the values. -/
theorem fft_ev (hv : vld p = true) : ∀ (k : Nat) (l : List Nat) (w : Nat), Rt (F p w) k → ∀ i, i < 2 ^ k → F p ((fft p k l w).getD i 0) = ev (2 ^ k) (cf p l) (F p w ^ i)
  | 0, l, w, _, i, hi => by
    obtain rfl : i = 0 := by simp at hi; omega
    show F p (l.getD 0 0) = ev 1 (cf p l) _
    simp only [ev, cf]; grind
  | k + 1, l, w, hw, i, hi => by
    have hsq : Rt (F p (fmul p w w)) k := by rw [F_fmul hv]; exact hw.sq
    have hE := fft_ev hv k (evens l (2 ^ k)) (fmul p w w) hsq
    have hO := fft_ev hv k (odds l (2 ^ k)) (fmul p w w) hsq
    rw [F_fmul hv] at hE hO
    have hh : F p w ^ (2 ^ k) = -1 := hw
    have c1 : ∀ x, ev (2 ^ k) (cf p (evens l (2 ^ k))) x = ev (2 ^ k) (fun t => cf p l (2 * t)) x := fun x => ev_congr x _ fun t ht => cf_tab_eq _ _ _ ht
    have c2 : ∀ x, ev (2 ^ k) (cf p (odds l (2 ^ k))) x = ev (2 ^ k) (fun t => cf p l (2 * t + 1)) x := fun x => ev_congr x _ fun t ht => cf_tab_eq _ _ _ ht
    have e2 : 2 ^ (k + 1) = 2 ^ k + 2 ^ k := by rw [Nat.pow_succ]; omega
    have key : ∀ i, (F p w * F p w) ^ i = F p w ^ i * F p w ^ i := fun i => mul_pow' _ _ _
    rw [fft, tab_get _ _ _ hi, e2, ev_even_odd]
    unfold joinv
    by_cases h : i < 2 ^ k
    · rw [if_pos h, F_fadd hv, F_fmul hv, F_pwK hv, hE i h, hO i h, c1, c2, key]
    · rw [if_neg h, F_fsub hv, F_fmul hv, F_pwK hv, hE _ (by omega), hO _ (by omega), c1, c2, key]
      have ei : F p w ^ i = - F p w ^ (i - 2 ^ k) := by
        conv => lhs; rw [show i = (i - 2 ^ k) + 2 ^ k by omega]
        rw [pow_add', hh]; grind
      have es : F p w ^ i * F p w ^ i = F p w ^ (i - 2 ^ k) * F p w ^ (i - 2 ^ k) := by rw [ei]; grind
      rw [es, ei]; grind

/-! ### sums -/
def sg : Nat → (Nat → Fin p) → Fin p
  | 0, _ => 0
  | n + 1, f => sg n f + f n
theorem sg_congr {f g : Nat → Fin p} : ∀ n, (∀ i, i < n → f i = g i) → sg n f = sg n g
  | 0, _ => rfl
  | n + 1, h => by rw [sg, sg, sg_congr n (fun i hi => h i (by omega)), h n (by omega)]
theorem sg_add (f g : Nat → Fin p) : ∀ n, sg n (fun i => f i + g i) = sg n f + sg n g
  | 0 => by simp only [sg]; grind
  | n + 1 => by simp only [sg, sg_add f g n]; grind
theorem sg_mul (c : Fin p) (f : Nat → Fin p) : ∀ n, sg n (fun i => c * f i) = c * sg n f
  | 0 => by simp only [sg]; grind
  | n + 1 => by simp only [sg, sg_mul c f n]; grind
theorem sg_zero : ∀ n, sg n (fun _ => (0 : Fin p)) = 0
  | 0 => rfl
  | n + 1 => by simp only [sg, sg_zero n]; grind
theorem sg_swap (f : Nat → Nat → Fin p) (m : Nat) : ∀ n, sg n (fun i => sg m (fun j => f i j)) = sg m (fun j => sg n (fun i => f i j))
  | 0 => by simp only [sg]; rw [sg_zero]
  | n + 1 => by simp only [sg]; rw [sg_swap f m n, ← sg_add]
theorem sg_one (f : Nat → Fin p) (j : Nat) : ∀ n, j < n → (∀ i, i < n → i ≠ j → f i = 0) → sg n f = f j
  | n + 1, hj, h => by
    rw [sg]
    by_cases e : j = n
    · subst e
      rw [sg_congr j (g := fun _ => 0) (fun i hi => h i (by omega) (by omega)), sg_zero]; grind
    · rw [sg_one f j n (by omega) (fun i hi hne => h i (by omega) hne), h n (by omega) (by omega)]; grind
theorem ev_sg (f : S p) (x : Fin p) : ∀ n, ev n f x = sg n (fun t => f t * x ^ t)
  | 0 => rfl
  | n + 1 => by rw [ev_snoc, ev_sg f x n, sg]
theorem geo (x : Fin p) : ∀ n, (x - 1) * sg n (fun i => x ^ i) = x ^ n - 1
  | 0 => by simp only [sg]; grind
  | n + 1 => by
    have := geo x n
    simp only [sg]; grind
theorem F_sg_one : ∀ n, sg n (fun _ => (1 : Fin p)) = F p n
  | 0 => by rw [F_zero]; rfl
  | n + 1 => by rw [sg, F_sg_one n, F_add, F_one]

/-! ### orthogonality -/
theorem one_ne_neg (hv : vld p = true) : (1 : Fin p) ≠ -1 := by
  intro h
  have h2 : F p 2 = 0 := by rw [show (2 : Nat) = 1 + 1 from rfl, F_add, F_one]; grind
  rw [F_eq_zero] at h2
  have := vld_bd hv
  rw [Nat.mod_eq_of_lt (by omega)] at h2; omega
/-- Powers below the order are not one. -/
theorem Rt.ne (hv : vld p = true) : ∀ {k : Nat} {w : Fin p}, Rt w k → ∀ d, 0 < d → d < 2 ^ k → w ^ d ≠ 1
  | 0, _, _, d, h0, h1 => by simp at h1; omega
  | k + 1, w, hw, d, h0, h1 => by
    intro hd
    by_cases he : d % 2 = 0
    · have := Rt.ne hv hw.sq (d / 2) (by omega) (by rw [Nat.pow_succ] at h1; omega)
      apply this
      rw [mul_pow', ← pow_add', ← hd]; congr 1; omega
    · -- d odd: raise to 2^k
      have h2 : (w ^ d) ^ (2 ^ k) = 1 := by rw [hd, one_pow']
      rw [← pow_mul', Nat.mul_comm, pow_mul', show w ^ (2 ^ k) = -1 from hw] at h2
      have h3 : ∀ m, (-1 : Fin p) ^ (2 * m + 1) = -1 := by
        intro m
        rw [pow_add', pow_mul', pow_one', show (-1 : Fin p) ^ 2 = 1 by grind, one_pow']; grind
      rw [show d = 2 * (d / 2) + 1 by omega, h3] at h2
      exact one_ne_neg hv h2.symm
theorem sum_pow (hv : vld p = true) {k : Nat} {w : Fin p} (hw : Rt w k) (d : Nat) (h0 : 0 < d) (h1 : d < 2 ^ k) : sg (2 ^ k) (fun i => (w ^ d) ^ i) = 0 := by
  have h := geo (w ^ d) (2 ^ k)
  rw [← pow_mul', Nat.mul_comm d, pow_mul', hw.one, one_pow'] at h
  have h2 : (w ^ d - 1) * sg (2 ^ k) (fun i => (w ^ d) ^ i) = 0 := by rw [h]; grind
  rcases noZD hv h2 with h3 | h3
  · exact absurd (by grind) (hw.ne hv d h0 h1)
  · exact h3
/-- The transform by u of the transform by w, where u * w = 1, is n times the list. -/
theorem dft_back (hv : vld p = true) {k : Nat} {w u : Fin p} (hw : Rt w k) (hu : u * w = 1) (f : S p) (j : Nat) (hj : j < 2 ^ k) :
    sg (2 ^ k) (fun i => ev (2 ^ k) f (w ^ i) * (u ^ j) ^ i) = F p (2 ^ k) * f j := by
  have e1 : sg (2 ^ k) (fun i => ev (2 ^ k) f (w ^ i) * (u ^ j) ^ i) = sg (2 ^ k) (fun i => sg (2 ^ k) (fun t => f t * ((w ^ t * u ^ j) ^ i))) := by
    apply sg_congr; intro i _
    rw [ev_sg, show (∀ a b : Fin p, a * b = b * a) from fun a b => by grind, ← sg_mul]
    apply sg_congr; intro t _
    rw [mul_pow', ← pow_mul' w i t, ← pow_mul' w t i, Nat.mul_comm i t]; grind
  rw [e1, sg_swap]
  rw [sg_one _ j _ hj]
  · have : w ^ j * u ^ j = 1 := by rw [← mul_pow', show w * u = 1 by grind, one_pow']
    rw [this]
    rw [sg_congr (g := fun i => f j * 1) _ (fun i _ => by rw [one_pow']), sg_mul, F_sg_one]; grind
  · intro t ht hne
    rw [sg_mul]
    have hz : sg (2 ^ k) (fun i => (w ^ t * u ^ j) ^ i) = 0 := by
      have hwu : ∀ a, w ^ a * u ^ a = 1 := fun a => by rw [← mul_pow', show w * u = 1 by grind, one_pow']
      by_cases hlt : j < t
      · have : w ^ t * u ^ j = w ^ (t - j) := by
          conv => lhs; rw [show t = (t - j) + j by omega, pow_add']
          have := hwu j; grind
        rw [this]; exact sum_pow hv hw (t - j) (by omega) (by omega)
      · -- t < j: w^t u^j = u^(j-t) = w^(n-(j-t))
        have : w ^ t * u ^ j = w ^ (2 ^ k - (j - t)) := by
          have h1 : u ^ j = u ^ t * u ^ (j - t) := by rw [← pow_add']; congr 1; omega
          have h2 : w ^ (2 ^ k) = w ^ (2 ^ k - (j - t)) * w ^ (j - t) := by rw [← pow_add']; congr 1; omega
          rw [hw.one] at h2
          have h3 := hwu t
          have h4 := hwu (j - t)
          rw [h1]
          have : w ^ t * (u ^ t * u ^ (j - t)) = u ^ (j - t) := by grind
          rw [this]
          have : w ^ (2 ^ k - (j - t)) * w ^ (j - t) * u ^ (j - t) = u ^ (j - t) := by rw [← h2]; grind
          rw [← this]; grind
        rw [this]; exact sum_pow hv hw _ (by omega) (by omega)
    rw [hz]; grind
end
end Go.Proofs.Ytgnngifnoaagjaa.Q
