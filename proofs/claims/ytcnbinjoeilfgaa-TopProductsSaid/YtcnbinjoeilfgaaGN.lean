/- Math5 Math6 Math7 Math8, merged. -/
import Derived.Test.YtcnbinjoeilfgaaGL
import Derived.Test.YtcnbinjoeilfgaaGP
/- Transforms: the values of a polynomial at the powers of a root of unity. -/
set_option linter.unusedSectionVars false
namespace Go.Proofs.Ytcnbinjoeilfgaa.Q
open Go.Proofs.Ytcnbinjoeilfgaa
section
variable {p : Nat} [NeZero p]

theorem pow_add' (x : Fin p) (a b : Nat) : x ^ (a + b) = x ^ a * x ^ b := by
  induction b with
  | zero => rw [Nat.add_zero]; grind
  | succ b ih => rw [← Nat.add_assoc, show x ^ (a + b + 1) = x ^ (a + b) * x by grind, ih]; grind
theorem pow_mul' (x : Fin p) (a b : Nat) : x ^ (a * b) = (x ^ a) ^ b := by
  induction b with
  | zero => rw [Nat.mul_zero]; grind
  | succ b ih => rw [Nat.mul_succ, pow_add', ih]; grind
theorem one_pow' (a : Nat) : (1 : Fin p) ^ a = 1 := by
  induction a with
  | zero => grind
  | succ a ih => rw [show (1 : Fin p) ^ (a + 1) = 1 ^ a * 1 by grind, ih]; grind
theorem mul_pow' (x y : Fin p) (a : Nat) : (x * y) ^ a = x ^ a * y ^ a := by
  induction a with
  | zero => grind
  | succ a ih => rw [show (x * y) ^ (a + 1) = (x * y) ^ a * (x * y) by grind, ih]; grind
theorem pow_one' (x : Fin p) : x ^ 1 = x := by grind

/-- w is a root of unity of the order 2^k, exactly. -/
def Rt (w : Fin p) : Nat → Prop
  | 0 => w = 1
  | k + 1 => w ^ (2 ^ k) = -1
theorem Rt.sq {w : Fin p} {k : Nat} (h : Rt w (k + 1)) : Rt (w * w) k := by
  cases k with
  | zero => show w * w = 1; have h0 : w ^ 1 = -1 := h; rw [pow_one'] at h0; rw [h0]; grind
  | succ k =>
    show (w * w) ^ (2 ^ k) = -1
    have h0 : w ^ (2 ^ (k + 1)) = -1 := h
    rw [mul_pow', ← pow_add', ← h0]; congr 1; omega
theorem Rt.one {w : Fin p} {k : Nat} (h : Rt w k) : w ^ (2 ^ k) = 1 := by
  cases k with
  | zero => have h0 : w = 1 := h; rw [h0, one_pow']
  | succ k =>
    have h0 : w ^ (2 ^ k) = -1 := h
    rw [Nat.pow_succ, pow_mul', h0]; grind

theorem ev_even_odd (f : S p) (x : Fin p) : ∀ n, ev (n + n) f x = ev n (fun t => f (2 * t)) (x * x) + x * ev n (fun t => f (2 * t + 1)) (x * x) := by
  intro n
  induction n generalizing f with
  | zero => simp only [ev]; grind
  | succ n ih =>
    have h := ih (tl (tl f))
    have a1 : ev (n + n + 1 + 1) f x = f 0 + x * (tl f 0 + x * ev (n + n) (tl (tl f)) x) := rfl
    have b1 : ev (n + 1) (fun t => f (2 * t)) (x * x) = f 0 + (x * x) * ev n (fun t => tl (tl f) (2 * t)) (x * x) := rfl
    have b2 : ev (n + 1) (fun t => f (2 * t + 1)) (x * x) = tl f 0 + (x * x) * ev n (fun t => tl (tl f) (2 * t + 1)) (x * x) := rfl
    rw [show n + 1 + (n + 1) = (n + n) + 1 + 1 by omega]
    refine a1.trans ?_
    rw [h]
    refine Eq.trans ?_ (congr (congrArg HAdd.hAdd b1.symm) (congrArg (x * ·) b2.symm))
    show f 0 + x * (tl f 0 + x * (ev n (fun t => tl (tl f) (2 * t)) (x * x) + x * ev n (fun t => tl (tl f) (2 * t + 1)) (x * x))) = f 0 + (x * x) * ev n (fun t => tl (tl f) (2 * t)) (x * x) + x * (tl f 0 + (x * x) * ev n (fun t => tl (tl f) (2 * t + 1)) (x * x))
    grind
theorem cf_tab_eq (n : Nat) (R : Nat → Nat) (t : Nat) (h : t < n) : cf p (tab n R) t = F p (R t) := by unfold cf; rw [tab_get n R t h]
theorem ev_congr {f g : S p} (x : Fin p) : ∀ n, (∀ t, t < n → f t = g t) → ev n f x = ev n g x := by
  intro n
  induction n generalizing f g with
  | zero => intro _; rfl
  | succ n ih => intro h; rw [ev, ev, h 0 (by omega), ih (f := tl f) (g := tl g) (fun t ht => h (t + 1) (by omega))]

/-- The fast transform yields the values. -/
theorem fft_ev (hv : vld p = true) : ∀ (k : Nat) (l : List Nat) (w : Nat), Rt (F p w) k → ∀ i, i < 2 ^ k → F p ((fft p k l w).getD i 0) = ev (2 ^ k) (cf p l) (F p w ^ i)
  | 0, l, w, _, i, hi => by
    obtain rfl : i = 0 := by simp at hi; omega
    show F p (l.getD 0 0) = ev 1 (cf p l) _
    simp only [ev, cf]; grind
  | k + 1, l, w, hw, i, hi => by
    have hsq : Rt (F p (fmul p w w)) k := by rw [F_fmul hv]; exact hw.sq
    have hE := fft_ev hv k (evens l (2 ^ k)) (fmul p w w) hsq
    have hO := fft_ev hv k (odds l (2 ^ k)) (fmul p w w) hsq
    rw [F_fmul hv] at hE hO
    have hh : F p w ^ (2 ^ k) = -1 := hw
    have c1 : ∀ x, ev (2 ^ k) (cf p (evens l (2 ^ k))) x = ev (2 ^ k) (fun t => cf p l (2 * t)) x := fun x => ev_congr x _ fun t ht => cf_tab_eq _ _ _ ht
    have c2 : ∀ x, ev (2 ^ k) (cf p (odds l (2 ^ k))) x = ev (2 ^ k) (fun t => cf p l (2 * t + 1)) x := fun x => ev_congr x _ fun t ht => cf_tab_eq _ _ _ ht
    have e2 : 2 ^ (k + 1) = 2 ^ k + 2 ^ k := by rw [Nat.pow_succ]; omega
    have key : ∀ i, (F p w * F p w) ^ i = F p w ^ i * F p w ^ i := fun i => mul_pow' _ _ _
    rw [fft, tab_get _ _ _ hi, e2, ev_even_odd]
    unfold joinv
    by_cases h : i < 2 ^ k
    · rw [if_pos h, F_fadd hv, F_fmul hv, F_pwK hv, hE i h, hO i h, c1, c2, key]
    · rw [if_neg h, F_fsub hv, F_fmul hv, F_pwK hv, hE _ (by omega), hO _ (by omega), c1, c2, key]
      have ei : F p w ^ i = - F p w ^ (i - 2 ^ k) := by
        conv => lhs; rw [show i = (i - 2 ^ k) + 2 ^ k by omega]
        rw [pow_add', hh]; grind
      have es : F p w ^ i * F p w ^ i = F p w ^ (i - 2 ^ k) * F p w ^ (i - 2 ^ k) := by rw [ei]; grind
      rw [es, ei]; grind

/-! ### sums -/
def sg : Nat → (Nat → Fin p) → Fin p
  | 0, _ => 0
  | n + 1, f => sg n f + f n
theorem sg_congr {f g : Nat → Fin p} : ∀ n, (∀ i, i < n → f i = g i) → sg n f = sg n g
  | 0, _ => rfl
  | n + 1, h => by rw [sg, sg, sg_congr n (fun i hi => h i (by omega)), h n (by omega)]
theorem sg_add (f g : Nat → Fin p) : ∀ n, sg n (fun i => f i + g i) = sg n f + sg n g
  | 0 => by simp only [sg]; grind
  | n + 1 => by simp only [sg, sg_add f g n]; grind
theorem sg_mul (c : Fin p) (f : Nat → Fin p) : ∀ n, sg n (fun i => c * f i) = c * sg n f
  | 0 => by simp only [sg]; grind
  | n + 1 => by simp only [sg, sg_mul c f n]; grind
theorem sg_zero : ∀ n, sg n (fun _ => (0 : Fin p)) = 0
  | 0 => rfl
  | n + 1 => by simp only [sg, sg_zero n]; grind
theorem sg_swap (f : Nat → Nat → Fin p) (m : Nat) : ∀ n, sg n (fun i => sg m (fun j => f i j)) = sg m (fun j => sg n (fun i => f i j))
  | 0 => by simp only [sg]; rw [sg_zero]
  | n + 1 => by simp only [sg]; rw [sg_swap f m n, ← sg_add]
theorem sg_one (f : Nat → Fin p) (j : Nat) : ∀ n, j < n → (∀ i, i < n → i ≠ j → f i = 0) → sg n f = f j
  | n + 1, hj, h => by
    rw [sg]
    by_cases e : j = n
    · subst e
      rw [sg_congr j (g := fun _ => 0) (fun i hi => h i (by omega) (by omega)), sg_zero]; grind
    · rw [sg_one f j n (by omega) (fun i hi hne => h i (by omega) hne), h n (by omega) (by omega)]; grind
theorem ev_sg (f : S p) (x : Fin p) : ∀ n, ev n f x = sg n (fun t => f t * x ^ t)
  | 0 => rfl
  | n + 1 => by rw [ev_snoc, ev_sg f x n, sg]
theorem geo (x : Fin p) : ∀ n, (x - 1) * sg n (fun i => x ^ i) = x ^ n - 1
  | 0 => by simp only [sg]; grind
  | n + 1 => by
    have := geo x n
    simp only [sg]; grind
theorem F_sg_one : ∀ n, sg n (fun _ => (1 : Fin p)) = F p n
  | 0 => by rw [F_zero]; rfl
  | n + 1 => by rw [sg, F_sg_one n, F_add, F_one]

/-! ### orthogonality -/
theorem one_ne_neg (hv : vld p = true) : (1 : Fin p) ≠ -1 := by
  intro h
  have h2 : F p 2 = 0 := by rw [show (2 : Nat) = 1 + 1 from rfl, F_add, F_one]; grind
  rw [F_eq_zero] at h2
  have := vld_bd hv
  rw [Nat.mod_eq_of_lt (by omega)] at h2; omega
/-- Powers below the order are not one. -/
theorem Rt.ne (hv : vld p = true) : ∀ {k : Nat} {w : Fin p}, Rt w k → ∀ d, 0 < d → d < 2 ^ k → w ^ d ≠ 1
  | 0, _, _, d, h0, h1 => by simp at h1; omega
  | k + 1, w, hw, d, h0, h1 => by
    intro hd
    by_cases he : d % 2 = 0
    · have := Rt.ne hv hw.sq (d / 2) (by omega) (by rw [Nat.pow_succ] at h1; omega)
      apply this
      rw [mul_pow', ← pow_add', ← hd]; congr 1; omega
    · -- d odd: raise to 2^k
      have h2 : (w ^ d) ^ (2 ^ k) = 1 := by rw [hd, one_pow']
      rw [← pow_mul', Nat.mul_comm, pow_mul', show w ^ (2 ^ k) = -1 from hw] at h2
      have h3 : ∀ m, (-1 : Fin p) ^ (2 * m + 1) = -1 := by
        intro m
        rw [pow_add', pow_mul', pow_one', show (-1 : Fin p) ^ 2 = 1 by grind, one_pow']; grind
      rw [show d = 2 * (d / 2) + 1 by omega, h3] at h2
      exact one_ne_neg hv h2.symm
theorem sum_pow (hv : vld p = true) {k : Nat} {w : Fin p} (hw : Rt w k) (d : Nat) (h0 : 0 < d) (h1 : d < 2 ^ k) : sg (2 ^ k) (fun i => (w ^ d) ^ i) = 0 := by
  have h := geo (w ^ d) (2 ^ k)
  rw [← pow_mul', Nat.mul_comm d, pow_mul', hw.one, one_pow'] at h
  have h2 : (w ^ d - 1) * sg (2 ^ k) (fun i => (w ^ d) ^ i) = 0 := by rw [h]; grind
  rcases noZD hv h2 with h3 | h3
  · exact absurd (by grind) (hw.ne hv d h0 h1)
  · exact h3
/-- The transform by u of the transform by w, where u * w = 1, is n times the list. -/
theorem dft_back (hv : vld p = true) {k : Nat} {w u : Fin p} (hw : Rt w k) (hu : u * w = 1) (f : S p) (j : Nat) (hj : j < 2 ^ k) :
    sg (2 ^ k) (fun i => ev (2 ^ k) f (w ^ i) * (u ^ j) ^ i) = F p (2 ^ k) * f j := by
  have e1 : sg (2 ^ k) (fun i => ev (2 ^ k) f (w ^ i) * (u ^ j) ^ i) = sg (2 ^ k) (fun i => sg (2 ^ k) (fun t => f t * ((w ^ t * u ^ j) ^ i))) := by
    apply sg_congr; intro i _
    rw [ev_sg, show (∀ a b : Fin p, a * b = b * a) from fun a b => by grind, ← sg_mul]
    apply sg_congr; intro t _
    rw [mul_pow', ← pow_mul' w i t, ← pow_mul' w t i, Nat.mul_comm i t]; grind
  rw [e1, sg_swap]
  rw [sg_one _ j _ hj]
  · have : w ^ j * u ^ j = 1 := by rw [← mul_pow', show w * u = 1 by grind, one_pow']
    rw [this]
    rw [sg_congr (g := fun i => f j * 1) _ (fun i _ => by rw [one_pow']), sg_mul, F_sg_one]; grind
  · intro t ht hne
    rw [sg_mul]
    have hz : sg (2 ^ k) (fun i => (w ^ t * u ^ j) ^ i) = 0 := by
      have hwu : ∀ a, w ^ a * u ^ a = 1 := fun a => by rw [← mul_pow', show w * u = 1 by grind, one_pow']
      by_cases hlt : j < t
      · have : w ^ t * u ^ j = w ^ (t - j) := by
          conv => lhs; rw [show t = (t - j) + j by omega, pow_add']
          have := hwu j; grind
        rw [this]; exact sum_pow hv hw (t - j) (by omega) (by omega)
      · -- t < j: w^t u^j = u^(j-t) = w^(n-(j-t))
        have : w ^ t * u ^ j = w ^ (2 ^ k - (j - t)) := by
          have h1 : u ^ j = u ^ t * u ^ (j - t) := by rw [← pow_add']; congr 1; omega
          have h2 : w ^ (2 ^ k) = w ^ (2 ^ k - (j - t)) * w ^ (j - t) := by rw [← pow_add']; congr 1; omega
          rw [hw.one] at h2
          have h3 := hwu t
          have h4 := hwu (j - t)
          rw [h1]
          have : w ^ t * (u ^ t * u ^ (j - t)) = u ^ (j - t) := by grind
          rw [this]
          have : w ^ (2 ^ k - (j - t)) * w ^ (j - t) * u ^ (j - t) = u ^ (j - t) := by rw [← h2]; grind
          rw [← this]; grind
        rw [this]; exact sum_pow hv hw _ (by omega) (by omega)
    rw [hz]; grind
end
end Go.Proofs.Ytcnbinjoeilfgaa.Q

/- Transforms: what the program computes is what the document says. -/
set_option linter.unusedSectionVars false
namespace Go.Proofs.Ytcnbinjoeilfgaa
/-! ### the document's lists, and the program's -/
def rdom (p s w n : Nat) : List Nat := tab n (dmK p s w)
def reva (p : Nat) (a : List Nat) (s w n : Nat) : List Nat := tab n (fun i => horner p (dmK p s w i) a)
def rintl (p : Nat) (v : List Nat) (s w n : Nat) : List Nat :=
  tab n (fun i => fmul p ((reva p v 1 w n).getD (if i = 0 then 0 else n - i) 0) (dmK p (finv p n) (finv p (s % p)) i))
def tfor (p k : Nat) (a : List Nat) (w : Nat) : List Nat := fft p k (a.map (fred p)) w
def tinv (p k : Nat) (a : List Nat) (w n : Nat) : List Nat := (fft p k (a.map (fred p)) (finv p w)).map (fun x => fmul p x (finv p n))
def teva (p k : Nat) (a : List Nat) (s w n : Nat) : List Nat := fft p k (tab n (fold p a s n a.length)) w
def tint (p k : Nat) (v : List Nat) (s w n : Nat) : List Nat := tab n (fun i => fmul p ((tinv p k v w n).getD i 0) (pwK p (finv p s) i))
namespace Q
theorem half {p : Nat} (hv : vld p = true) : gent p ^ ((p - 1) / 2) % p = p - 1 := by
  have aux : ∀ q, decide ((q - 1) / 2 < 2 ^ 64 ∧ 0 < q ∧ pm 64 (gent q) ((q - 1) / 2) q = q - 1) = true → gent q ^ ((q - 1) / 2) % q = q - 1 := fun q h => by
    obtain ⟨h, h0, h2⟩ := of_decide_eq_true h
    rw [← pm_spec q 64 (gent q) _ h, h2]; exact Nat.mod_eq_of_lt (by omega)
  rcases vld_cases hv with rfl | rfl | rfl | rfl | rfl | rfl | rfl
  · exact aux 17 (by decide +kernel)
  · exact aux 97 (by decide +kernel)
  · exact aux 193 (by decide +kernel)
  · exact aux 257 (by decide +kernel)
  · exact aux 12289 (by decide +kernel)
  · exact aux 65537 (by decide +kernel)
  · exact aux 18446744069414584321 (by decide +kernel)
section
variable {p : Nat} [NeZero p]
theorem half_F (hv : vld p = true) : F p (gent p) ^ ((p - 1) / 2) = -1 := by
  rw [← F_pow, ← F_mod, half hv]
  have h1 : F p (p - 1) + F p 1 = 0 := by rw [← F_add, Nat.sub_add_cancel (by have := vld_bd hv; omega), F_p]
  rw [F_one] at h1; grind
theorem root_Rt (hv : vld p = true) {k : Nat} (h : (p - 1) % 2 ^ k = 0) : Rt (F p (rootN p (2 ^ k))) k := by
  have hb := vld_bd hv
  unfold rootN
  rw [F_mod, F_pow]
  cases k with
  | zero =>
    show _ = (1 : Fin p)
    rw [Nat.pow_zero, Nat.div_one]
    have : (p - 1) = (p - 1) / 2 * 2 := by
      rcases vld_cases hv with rfl | rfl | rfl | rfl | rfl | rfl | rfl <;> decide
    rw [this, pow_mul', half_F hv]; grind
  | succ k =>
    show _ ^ (2 ^ k) = (-1 : Fin p)
    rw [← pow_mul', ← half_F hv]
    congr 1
    obtain ⟨m, hm⟩ := Nat.dvd_of_mod_eq_zero h
    rw [hm, Nat.mul_div_cancel_left _ (Nat.two_pow_pos _), Nat.pow_succ, Nat.mul_assoc, Nat.mul_comm 2 m, ← Nat.mul_assoc, Nat.mul_div_cancel _ (by omega), Nat.mul_comm]
theorem n_ne (hv : vld p = true) {k : Nat} (h : (p - 1) % 2 ^ k = 0) : F p (2 ^ k) ≠ 0 := by
  have hb := vld_bd hv
  rw [Ne, F_eq_zero]
  have h1 : 2 ^ k ≤ p - 1 := Nat.le_of_dvd (by omega) (Nat.dvd_of_mod_eq_zero h)
  have h2 := Nat.two_pow_pos k
  rw [Nat.mod_eq_of_lt (by omega)]; omega
theorem Rt.ne_zero {w : Fin p} {k : Nat} (hv : vld p = true) (h : Rt w k) : w ≠ 0 := by
  intro h0
  have h1 := h.one
  have h2 := Nat.two_pow_pos k
  rw [h0, show 2 ^ k = (2 ^ k - 1) + 1 by omega, pow_add'] at h1
  exact F_one_ne hv (by rw [← h1]; grind)
theorem Rt.inv (_hv : vld p = true) {w u : Fin p} {k : Nat} (h : Rt w k) (hu : u * w = 1) : Rt u k := by
  cases k with
  | zero => have h0 : w = 1 := h; show u = 1; rw [h0] at hu; grind
  | succ k =>
    have h0 : w ^ (2 ^ k) = -1 := h
    show u ^ (2 ^ k) = -1
    have h1 : u ^ (2 ^ k) * w ^ (2 ^ k) = 1 := by rw [← mul_pow', hu, one_pow']
    rw [h0] at h1; grind
theorem F_dmK (hv : vld p = true) (s w : Nat) : ∀ i, F p (dmK p s w i) = F p s * F p w ^ i
  | 0 => by rw [dmK]; grind
  | i + 1 => by rw [dmK, F_fmul hv, F_dmK hv s w i]; grind
def scS (f : S p) (s : Fin p) : S p := fun t => f t * s ^ t
theorem ev_scale (f : S p) (s x : Fin p) : ∀ n, ev n (scS f s) x = ev n f (s * x) := by
  intro n; rw [ev_sg, ev_sg]; apply sg_congr; intro t _; simp only [scS]; rw [mul_pow']; grind
theorem cf_mapred (hv : vld p = true) (a : List Nat) : cf p (a.map (fred p)) = cf p a := by
  apply S.ext; intro t; unfold cf; rw [map_getD _ (fred_zero p), F_fred hv]
end
theorem fft_lt {p : Nat} (hv : vld p = true) : ∀ k (l : List Nat) w, (∀ t, l.getD t 0 < p) → ∀ t, (fft p k l w).getD t 0 < p
  | 0, _, _, h, t => h t
  | k + 1, l, w, _, t => by
    have hb := vld_bd hv
    rw [fft, tab_getD]; split
    · unfold joinv; split
      · exact fadd_lt hv
      · exact fsub_lt hv
    · omega
theorem mapred_lt {p : Nat} (hv : vld p = true) (a : List Nat) (t : Nat) : (a.map (fred p)).getD t 0 < p := by
  rw [map_getD _ (fred_zero p)]; exact fred_lt hv
theorem list_ext_F {p : Nat} [NeZero p] {l m : List Nat} {n : Nat} (h1 : l.length = n) (h2 : m.length = n) (hl : ∀ t, l.getD t 0 < p) (hm : ∀ t, m.getD t 0 < p) (h : ∀ t, t < n → F p (l.getD t 0) = F p (m.getD t 0)) : l = m := by
  rw [list_tab l, list_tab m, h1, h2]
  exact tab_congr fun t ht => F_inj (hl t) (hm t) (h t ht)
theorem tab_lt {p n : Nat} {R : Nat → Nat} (hp : 0 < p) (h : ∀ t, t < n → R t < p) (t : Nat) : (tab n R).getD t 0 < p := by
  rw [tab_getD]; split
  · exact h t (by assumption)
  · exact hp
section
variable {p : Nat} [NeZero p]
theorem F_reva (hv : vld p = true) (a : List Nat) (s w n i : Nat) (h : i < n) : F p ((reva p a s w n).getD i 0) = ev a.length (cf p a) (F p s * F p w ^ i) := by
  unfold reva; rw [tab_get _ _ _ h, F_horner hv, F_dmK hv]
theorem F_tfor (hv : vld p = true) {k : Nat} {w : Nat} (hw : Rt (F p w) k) (a : List Nat) (i : Nat) (hi : i < 2 ^ k) : F p ((tfor p k a w).getD i 0) = ev (2 ^ k) (cf p a) (F p w ^ i) := by
  unfold tfor; rw [fft_ev hv k _ w hw i hi, cf_mapred hv]
theorem F_tinv (hv : vld p = true) {k : Nat} {w n : Nat} (hw : Rt (F p w) k) (a : List Nat) (i : Nat) (hi : i < 2 ^ k) : F p ((tinv p k a w n).getD i 0) = ev (2 ^ k) (cf p a) (F p (finv p w) ^ i) * F p (finv p n) := by
  have hu : F p (finv p w) * F p w = 1 := by have := F_finv hv (a := w) (hw.ne_zero hv); grind
  unfold tinv
  rw [map_getD (fun x => fmul p x (finv p _)) (fmul_z p _), F_fmul hv, fft_ev hv k _ _ (hw.inv hv hu) i hi, cf_mapred hv]
theorem fold_ev (hv : vld p = true) (a : List Nat) (s n : Nat) (hn : 0 < n) (x : Fin p) (hx : x ^ n = 1) : ∀ K, ev n (cf p (tab n (fold p a s n K))) x = ev K (cf p a) (F p s * x) := by
  intro K
  induction K with
  | zero =>
    rw [ev_congr (g := zeroS) x n (fun t ht => by rw [cf_tab_eq _ _ _ ht]; show F p 0 = _; rw [F_zero]; rfl), ev_zeroS]; rfl
  | succ K ih =>
    have h1 : ev n (cf p (tab n (fold p a s n (K + 1)))) x = ev n (addS (cf p (tab n (fold p a s n K))) (mono (F p (fmul p (a.getD K 0) (pwK p s K))) (K % n))) x := by
      apply ev_congr; intro t ht
      simp only [addS, mono]
      rw [cf_tab_eq _ _ _ ht, cf_tab_eq _ _ _ ht]
      show F p (if t = K % n then _ else _) = _
      by_cases h : t = K % n
      · rw [if_pos h, if_pos h, F_fadd hv]
      · rw [if_neg h, if_neg h]; grind
    have h2 : ∀ (c : Fin p) j, j < n → ev n (mono c j) x = c * x ^ j := fun c j hj => by
      rw [ev_sg, sg_one _ j n hj]
      · simp [mono]
      · intro i _ hne; simp only [mono]; rw [if_neg hne]; grind
    rw [h1, ev_add, ih, h2 _ _ (Nat.mod_lt _ hn), ev_snoc, F_fmul hv, F_pwK hv, mul_pow']
    have h3 : x ^ K = x ^ (K % n) := by
      conv => lhs; rw [← Nat.div_add_mod K n, pow_add', pow_mul', hx, one_pow']
      grind
    rw [h3]; simp only [cf]; grind
theorem Rt.pow_one {w : Fin p} {k : Nat} (h : Rt w k) (i : Nat) : (w ^ i) ^ (2 ^ k) = 1 := by
  rw [← pow_mul', Nat.mul_comm, pow_mul', h.one, one_pow']
theorem F_teva (hv : vld p = true) {k : Nat} {w : Nat} (hw : Rt (F p w) k) (a : List Nat) (s : Nat) (i : Nat) (hi : i < 2 ^ k) : F p ((teva p k a s w (2 ^ k)).getD i 0) = ev a.length (cf p a) (F p s * F p w ^ i) := by
  unfold teva
  rw [fft_ev hv k _ w hw i hi, fold_ev hv a s _ (Nat.two_pow_pos k) _ (hw.pow_one i)]
end
theorem fold_lt {p : Nat} (hv : vld p = true) (a : List Nat) (s n : Nat) : ∀ K t, fold p a s n K t < p
  | 0, _ => by have := vld_bd hv; show 0 < p; omega
  | K + 1, t => by
    show (if t = K % n then _ else _) < p
    split
    · exact fadd_lt hv
    · exact fold_lt hv a s n K t
section
variable {p k : Nat} (hv : vld p = true) (hk : (p - 1) % 2 ^ k = 0)
include hv hk
/-- Forward. -/
theorem for_same (a : List Nat) (ha : a.length = 2 ^ k) : tfor p k a (rootN p (2 ^ k)) = reva p a 1 (rootN p (2 ^ k)) (2 ^ k) := by
  haveI := nz_vld hv
  have hb := vld_bd hv
  refine list_ext_F (n := 2 ^ k) (fft_len _ _ _ _ (by simpa using ha)) (tab_len _ _) (fft_lt hv _ _ _ (mapred_lt hv a)) (tab_lt (by omega) fun t _ => horner_lt hv _ _) fun t ht => ?_
  rw [F_tfor hv (root_Rt hv hk) a t ht, F_reva hv _ _ _ _ _ ht, F_one, ha]; congr 1; grind
theorem eva_same (a : List Nat) (s : Nat) : teva p k a s (rootN p (2 ^ k)) (2 ^ k) = reva p a s (rootN p (2 ^ k)) (2 ^ k) := by
  haveI := nz_vld hv
  have hb := vld_bd hv
  refine list_ext_F (n := 2 ^ k) (fft_len _ _ _ _ (tab_len _ _)) (tab_len _ _) (fft_lt hv _ _ _ (tab_lt (by omega) fun t _ => fold_lt hv _ _ _ _ _)) (tab_lt (by omega) fun t _ => horner_lt hv _ _) fun t ht => ?_
  rw [F_teva hv (root_Rt hv hk) a s t ht, F_reva hv _ _ _ _ _ ht]
theorem tinv_len (a : List Nat) (ha : a.length = 2 ^ k) (w n : Nat) : (tinv p k a w n).length = 2 ^ k := by
  unfold tinv; rw [List.length_map, fft_len _ _ _ _ (by simpa using ha)]
theorem finv_mod (s : Nat) : finv p (s % p) = finv p s := by
  unfold finv fpow; rw [if_pos hv, if_pos hv, ← Nat.pow_mod]
theorem int_same (v : List Nat) (hl : v.length = 2 ^ k) (s : Nat) : tint p k v s (rootN p (2 ^ k)) (2 ^ k) = rintl p v s (rootN p (2 ^ k)) (2 ^ k) := by
  haveI := nz_vld hv
  have hb := vld_bd hv
  have hw := root_Rt hv hk
  have hu : F p (finv p (rootN p (2 ^ k))) * F p (rootN p (2 ^ k)) = 1 := by have := F_finv hv (a := rootN p (2 ^ k)) (hw.ne_zero hv); grind
  unfold tint rintl
  refine tab_congr fun t ht => F_inj (fmul_lt hv) (fmul_lt hv) ?_
  rw [F_fmul hv, F_fmul hv, F_tinv hv hw v t ht, F_pwK hv, F_dmK hv, finv_mod hv hk]
  have h2 := Nat.two_pow_pos k
  rw [F_reva hv _ _ _ _ _ (by split <;> omega), F_one, hl]
  have e : F p (finv p (rootN p (2 ^ k))) ^ t = 1 * F p (rootN p (2 ^ k)) ^ (if t = 0 then 0 else 2 ^ k - t) := by
    split
    · rename_i h; subst h; grind
    · have h3 : F p (rootN p (2 ^ k)) ^ (2 ^ k - t) * F p (rootN p (2 ^ k)) ^ t = 1 := by rw [← pow_add', show 2 ^ k - t + t = 2 ^ k by omega, hw.one]
      have h4 : F p (finv p (rootN p (2 ^ k))) ^ t * F p (rootN p (2 ^ k)) ^ t = 1 := by rw [← mul_pow', hu, one_pow']
      have : F p (rootN p (2 ^ k)) ^ (2 ^ k - t) * F p (rootN p (2 ^ k)) ^ t * F p (finv p (rootN p (2 ^ k))) ^ t = F p (finv p (rootN p (2 ^ k))) ^ t := by rw [h3]; grind
      rw [← this]
      have : ∀ a b c : Fin p, c * b = 1 → a * b * c = 1 * a := fun a b c h => by grind
      exact this _ _ _ h4
  rw [e]; grind
theorem inv_same (v : List Nat) (hl : v.length = 2 ^ k) : tinv p k v (rootN p (2 ^ k)) (2 ^ k) = rintl p v 1 (rootN p (2 ^ k)) (2 ^ k) := by
  haveI := nz_vld hv
  rw [← int_same hv hk v hl 1]
  unfold tint
  have h1 : finv p 1 = 1 := by
    unfold finv fpow; rw [if_pos hv, Nat.one_pow]; exact Nat.mod_eq_of_lt (by have := vld_bd hv; omega)
  conv => lhs; rw [list_tab (tinv p k v (rootN p (2 ^ k)) (2 ^ k)), tinv_len hv hk v hl]
  refine tab_congr fun t ht => ?_
  apply F_inj (p := p)
  · unfold tinv; rw [map_getD (fun x => fmul p x (finv p _)) (fmul_z p _)]; exact fmul_lt hv
  · exact fmul_lt hv
  rw [F_fmul hv, h1, F_pwK hv, F_one, one_pow']; grind
/-- Back and forth. -/
theorem inv_for (a : List Nat) (ha : a.length = 2 ^ k) : tinv p k (tfor p k a (rootN p (2 ^ k))) (rootN p (2 ^ k)) (2 ^ k) = a.map (fred p) := by
  haveI := nz_vld hv
  have hb := vld_bd hv
  have hw := root_Rt hv hk
  have hu : F p (finv p (rootN p (2 ^ k))) * F p (rootN p (2 ^ k)) = 1 := by have := F_finv hv (a := rootN p (2 ^ k)) (hw.ne_zero hv); grind
  have hl : (tfor p k a (rootN p (2 ^ k))).length = 2 ^ k := fft_len _ _ _ _ (by simpa using ha)
  refine list_ext_F (n := 2 ^ k) (tinv_len hv hk _ hl _ _) (by simpa using ha) (fun t => by unfold tinv; rw [map_getD (fun x => fmul p x (finv p _)) (fmul_z p _)]; exact fmul_lt hv) (mapred_lt hv a) fun t ht => ?_
  rw [F_tinv hv hw _ t ht, map_getD _ (fred_zero p), F_fred hv, ev_sg]
  rw [sg_congr (g := fun i => ev (2 ^ k) (cf p a) (F p (rootN p (2 ^ k)) ^ i) * (F p (finv p (rootN p (2 ^ k))) ^ t) ^ i) _ (fun i hi => by show F p _ * _ = _; rw [F_tfor hv hw a i hi])]
  rw [dft_back hv hw hu _ t ht]
  have := F_finv hv (a := 2 ^ k) (n_ne hv hk)
  simp only [cf]; grind
theorem ev_tinv (a : List Nat) (t : Nat) (ht : t < 2 ^ k) [NeZero p] : ev (2 ^ k) (cf p (tinv p k a (rootN p (2 ^ k)) (2 ^ k))) (F p (rootN p (2 ^ k)) ^ t) = cf p a t := by
  have hw := root_Rt hv hk
  have hu : F p (rootN p (2 ^ k)) * F p (finv p (rootN p (2 ^ k))) = 1 := F_finv hv (a := rootN p (2 ^ k)) (hw.ne_zero hv)
  have hwi := hw.inv hv (by rw [← hu]; grind : F p (finv p (rootN p (2 ^ k))) * F p (rootN p (2 ^ k)) = 1)
  rw [ev_sg]
  rw [sg_congr (g := fun i => F p (finv p (2 ^ k)) * (ev (2 ^ k) (cf p a) (F p (finv p (rootN p (2 ^ k))) ^ i) * (F p (rootN p (2 ^ k)) ^ t) ^ i)) _ (fun i hi => by show F p _ * _ = _; rw [F_tinv hv hw a i hi]; grind)]
  rw [sg_mul, dft_back hv hwi hu _ t ht]
  have := F_finv hv (a := 2 ^ k) (n_ne hv hk)
  grind
theorem for_inv (a : List Nat) (ha : a.length = 2 ^ k) : tfor p k (tinv p k a (rootN p (2 ^ k)) (2 ^ k)) (rootN p (2 ^ k)) = a.map (fred p) := by
  haveI := nz_vld hv
  have hw := root_Rt hv hk
  refine list_ext_F (n := 2 ^ k) (fft_len _ _ _ _ (by rw [List.length_map]; exact tinv_len hv hk a ha _ _)) (by simpa using ha) (fft_lt hv _ _ _ (mapred_lt hv _)) (mapred_lt hv a) fun t ht => ?_
  rw [F_tfor hv hw _ t ht, ev_tinv hv hk a t ht, map_getD _ (fred_zero p), F_fred hv]; rfl
theorem cf_tint (v : List Nat) (s : Nat) (t : Nat) (ht : t < 2 ^ k) (n : Nat) [NeZero p] : cf p (tint p k v s (rootN p (2 ^ k)) (2 ^ k)) t = cf p (tinv p k v (rootN p (2 ^ k)) (2 ^ k)) t * F p (finv p s) ^ t ∧ n = n := by
  refine ⟨?_, rfl⟩
  unfold tint; rw [cf_tab_eq _ _ _ ht, F_fmul hv, F_pwK hv]; rfl
/-- The interpolated polynomial has the values. -/
theorem int_value (v : List Nat) (hl : v.length = 2 ^ k) (s : Nat) (hs : s % p ≠ 0) (i : Nat) (hi : i < 2 ^ k) :
    horner p (dmK p (s % p) (rootN p (2 ^ k)) i) (rintl p v s (rootN p (2 ^ k)) (2 ^ k)) = fred p (v.getD i 0) := by
  haveI := nz_vld hv
  have hs' : F p s ≠ 0 := fun h => hs (F_eq_zero.1 h)
  have hinv := F_finv hv hs'
  apply F_inj (p := p) (horner_lt hv _ _) (fred_lt hv)
  rw [← int_same hv hk v hl s, F_horner hv, F_dmK hv, F_mod, F_fred hv]
  have hlen : (tint p k v s (rootN p (2 ^ k)) (2 ^ k)).length = 2 ^ k := tab_len _ _
  rw [hlen]
  rw [ev_congr (g := scS (cf p (tinv p k v (rootN p (2 ^ k)) (2 ^ k))) (F p (finv p s))) _ _ (fun t ht => (cf_tint hv hk v s t ht 0).1), ev_scale]
  rw [show F p (finv p s) * (F p s * F p (rootN p (2 ^ k)) ^ i) = F p (rootN p (2 ^ k)) ^ i by grind, ev_tinv hv hk v i hi]; rfl
theorem int_eva (a : List Nat) (ha : a.length = 2 ^ k) (s : Nat) (hs : s % p ≠ 0) : tint p k (teva p k a (s % p) (rootN p (2 ^ k)) (2 ^ k)) s (rootN p (2 ^ k)) (2 ^ k) = a.map (fred p) := by
  haveI := nz_vld hv
  have hb := vld_bd hv
  have hw := root_Rt hv hk
  have hs' : F p s ≠ 0 := fun h => hs (F_eq_zero.1 h)
  have hinv := F_finv hv hs'
  have hu : F p (finv p (rootN p (2 ^ k))) * F p (rootN p (2 ^ k)) = 1 := by have := F_finv hv (a := rootN p (2 ^ k)) (hw.ne_zero hv); grind
  refine list_ext_F (n := 2 ^ k) (tab_len _ _) (by simpa using ha) (tab_lt (by omega) fun t _ => fmul_lt hv) (mapred_lt hv a) fun t ht => ?_
  have h1 := (cf_tint hv hk (teva p k a (s % p) (rootN p (2 ^ k)) (2 ^ k)) s t ht 0).1
  have h2 : cf p (tinv p k (teva p k a (s % p) (rootN p (2 ^ k)) (2 ^ k)) (rootN p (2 ^ k)) (2 ^ k)) t = cf p a t * F p s ^ t := by
    show F p _ = _
    rw [F_tinv hv hw _ t ht, ev_sg]
    rw [sg_congr (g := fun i => ev (2 ^ k) (scS (cf p a) (F p s)) (F p (rootN p (2 ^ k)) ^ i) * (F p (finv p (rootN p (2 ^ k))) ^ t) ^ i) _ (fun i hi => by show F p _ * _ = _; rw [F_teva hv hw a _ i hi, F_mod, ha, ev_scale])]
    rw [dft_back hv hw hu _ t ht]
    have := F_finv hv (a := 2 ^ k) (n_ne hv hk)
    simp only [scS]; grind
  rw [h2] at h1
  rw [map_getD _ (fred_zero p), F_fred hv]
  have h3 : F p s ^ t * F p (finv p s) ^ t = 1 := by rw [← mul_pow', hinv, one_pow']
  have h4 : F p ((tint p k (teva p k a (s % p) (rootN p (2 ^ k)) (2 ^ k)) s (rootN p (2 ^ k)) (2 ^ k)).getD t 0) = cf p a t * F p s ^ t * F p (finv p s) ^ t := h1
  rw [h4]; simp only [cf]; grind
end
end Q
end Go.Proofs.Ytcnbinjoeilfgaa

/- Transforms: the functions with their errors. -/
namespace Go.Proofs.Ytcnbinjoeilfgaa
def okT (p : Nat) (n : Int) : Bool := rootB (if n ≤ 4096 then p else 0) n
theorem okT_and (p : Nat) (n : Int) : okT p n = (rootB p n && decide (n ≤ 4096)) := by
  unfold okT; by_cases h : n ≤ 4096
  · rw [if_pos h, decide_eq_true h, Bool.and_true]
  · rw [if_neg h, decide_eq_false h, Bool.and_false]; rfl
theorem okT_spec {p : Nat} {n : Int} (h : okT p n = true) : vld p = true ∧ ∃ k, k ≤ 12 ∧ n = ((2 ^ k : Nat) : Int) ∧ (p - 1) % 2 ^ k = 0 ∧ rootV (if n ≤ 4096 then p else 0) n = rootN p (2 ^ k) := by
  rw [okT_and, Bool.and_eq_true, decide_eq_true_eq] at h
  obtain ⟨h1, ⟨k, hk, rfl⟩, h2⟩ := rootB_spec h.1
  refine ⟨h1, k, ?_, rfl, by rwa [Int.toNat_natCast] at h2, ?_⟩
  · rcases Nat.lt_or_ge 12 k with h3 | h3
    · have := Nat.pow_le_pow_right (show 0 < 2 by omega) (show 13 ≤ k by omega)
      have h4 := h.2
      omega
    · exact h3
  · rw [if_pos h.2]; unfold rootV; rw [h.1, if_pos rfl, Int.toNat_natCast]
theorem okT_vld {p : Nat} {n : Int} (h : vld p = false) : okT p n = false := by
  rw [okT_and]; unfold rootB; rw [h]; rfl
def tF (p : Nat) (l : List Nat) : List Nat × Int :=
  if vld p = false then ([], 7) else if okT p l.length = true then (tfor p (Nat.log2 l.length) l (rootN p l.length), 0) else ([], 1)
def tI (p : Nat) (l : List Nat) : List Nat × Int :=
  if vld p = false then ([], 7) else if okT p l.length = true then (tinv p (Nat.log2 l.length) l (rootN p l.length) l.length, 0) else ([], 1)
def tD (p s : Nat) (n : Int) : List Nat × Int :=
  if vld p = false then ([], 7) else if okT p n = true ∧ s % p ≠ 0 then (rdom p (s % p) (rootN p n.toNat) n.toNat, 0) else ([], 1)
def tE (p : Nat) (l : List Nat) (s : Nat) (n : Int) : List Nat × Int :=
  if vld p = false then ([], 7) else if okT p n = true ∧ s % p ≠ 0 then
    if l.length ≤ 8192 then (teva p (Nat.log2 n.toNat) l (s % p) (rootN p n.toNat) n.toNat, 0) else ([], 3)
  else ([], 1)
def tN (p : Nat) (v : List Nat) (s : Nat) : List Nat × Int :=
  if vld p = false then ([], 7) else if okT p v.length = true ∧ s % p ≠ 0 then (tint p (Nat.log2 v.length) v s (rootN p v.length) v.length, 0) else ([], 1)
def rE (p : Nat) (l : List Nat) (s : Nat) (n : Int) : List Nat × Int :=
  if vld p = false then ([], 7) else if okT p n = true ∧ s % p ≠ 0 then
    if l.length ≤ 8192 then (reva p l (s % p) (rootN p n.toNat) n.toNat, 0) else ([], 3)
  else ([], 1)
def rI (p : Nat) (v : List Nat) (s : Nat) : List Nat × Int :=
  if vld p = false then ([], 7) else if okT p v.length = true ∧ s % p ≠ 0 then (rintl p v s (rootN p v.length) v.length, 0) else ([], 1)
theorem one_mod {p : Nat} (h : vld p = true) : 1 % p = 1 := Nat.mod_eq_of_lt (by have := vld_bd h; omega)
namespace Q
theorem tF_same (p : Nat) (l : List Nat) : tF p l = rE p l 1 l.length := by
  unfold tF rE
  cases hv : vld p
  · rfl
  · simp only [Bool.true_eq_false, if_false]
    by_cases h : okT p l.length = true
    · obtain ⟨_, k, hk, hn, hd, _⟩ := okT_spec h
      have hn' : l.length = 2 ^ k := by omega
      have h8 : l.length ≤ 8192 := by
        rw [hn']; exact Nat.le_trans (Nat.pow_le_pow_right (by omega) hk) (by decide)
      rw [if_pos h, if_pos ⟨h, by rw [one_mod hv]; omega⟩, if_pos h8, one_mod hv, Int.toNat_natCast, hn', Nat.log2_two_pow, for_same hv hd l hn']
    · rw [if_neg h, if_neg (fun h2 => h h2.1)]
theorem tI_same (p : Nat) (l : List Nat) : tI p l = rI p l 1 := by
  unfold tI rI
  cases hv : vld p
  · rfl
  · simp only [Bool.true_eq_false, if_false]
    by_cases h : okT p l.length = true
    · obtain ⟨_, k, hk, hn, hd, _⟩ := okT_spec h
      have hn' : l.length = 2 ^ k := by omega
      rw [if_pos h, if_pos ⟨h, by rw [one_mod hv]; omega⟩, hn', Nat.log2_two_pow, inv_same hv hd l hn']
    · rw [if_neg h, if_neg (fun h2 => h h2.1)]
theorem tE_same (p : Nat) (l : List Nat) (s : Nat) (n : Int) : tE p l s n = rE p l s n := by
  unfold tE rE
  cases hv : vld p
  · rfl
  · simp only [Bool.true_eq_false, if_false]
    by_cases h : okT p n = true ∧ s % p ≠ 0
    · obtain ⟨_, k, hk, hn, hd, _⟩ := okT_spec h.1
      rw [if_pos h, if_pos h, hn, Int.toNat_natCast, Nat.log2_two_pow, eva_same hv hd l]
    · rw [if_neg h, if_neg h]
theorem tN_same (p : Nat) (v : List Nat) (s : Nat) : tN p v s = rI p v s := by
  unfold tN rI
  cases hv : vld p
  · rfl
  · simp only [Bool.true_eq_false, if_false]
    by_cases h : okT p v.length = true ∧ s % p ≠ 0
    · obtain ⟨_, k, hk, hn, hd, _⟩ := okT_spec h.1
      have hn' : v.length = 2 ^ k := by omega
      rw [if_pos h, if_pos h, hn', Nat.log2_two_pow, int_same hv hd v hn']
    · rw [if_neg h, if_neg h]
end Q
end Go.Proofs.Ytcnbinjoeilfgaa

/- Products by transforms. -/
namespace Go.Proofs.Ytcnbinjoeilfgaa
/-- The product with all its coefficients. -/
def tMul (p : Nat) (a b : List Nat) : List Nat := tab (a.length + b.length - 1) (mout p a b a.length)
/-- The products of values, place by place. -/
def zipM (p : Nat) (x y : List Nat) : List Nat := tab x.length (fun i => fmul p (x.getD i 0) (y.getD i 0))
namespace Q
section
variable {p k : Nat} (hv : vld p = true) (hk : (p - 1) % 2 ^ k = 0)
include hv hk
/-- The inverse of values: the coefficients. -/
theorem inv_values [NeZero p] (z : List Nat) (f : S p) (hz : ∀ i, i < 2 ^ k → F p (z.getD i 0) = ev (2 ^ k) f (F p (rootN p (2 ^ k)) ^ i)) (t : Nat) (ht : t < 2 ^ k) :
    F p ((tinv p k z (rootN p (2 ^ k)) (2 ^ k)).getD t 0) = f t := by
  have hw := root_Rt hv hk
  have hu : F p (finv p (rootN p (2 ^ k))) * F p (rootN p (2 ^ k)) = 1 := by have := F_finv hv (a := rootN p (2 ^ k)) (hw.ne_zero hv); grind
  rw [F_tinv hv hw _ t ht, ev_sg]
  rw [sg_congr (g := fun i => ev (2 ^ k) f (F p (rootN p (2 ^ k)) ^ i) * (F p (finv p (rootN p (2 ^ k))) ^ t) ^ i) _ (fun i hi => by show F p _ * _ = _; rw [hz i hi])]
  rw [dft_back hv hw hu _ t ht]
  have := F_finv hv (a := 2 ^ k) (n_ne hv hk)
  grind
theorem mul_values (a b : List Nat) (ha : 0 < a.length) (hb : 0 < b.length) (hn : a.length + b.length ≤ 2 ^ k + 1) :
    (tinv p k (zipM p (reva p a 1 (rootN p (2 ^ k)) (2 ^ k)) (reva p b 1 (rootN p (2 ^ k)) (2 ^ k))) (rootN p (2 ^ k)) (2 ^ k)).take (a.length + b.length - 1) = tMul p a b := by
  haveI := nz_vld hv
  have hbd := vld_bd hv
  have lX : (reva p a 1 (rootN p (2 ^ k)) (2 ^ k)).length = 2 ^ k := tab_len _ _
  have lZ : (zipM p (reva p a 1 (rootN p (2 ^ k)) (2 ^ k)) (reva p b 1 (rootN p (2 ^ k)) (2 ^ k))).length = 2 ^ k := by unfold zipM; rw [tab_len, lX]
  have lT := tinv_len hv hk _ lZ (rootN p (2 ^ k)) (2 ^ k)
  have hdeg : DegLt (mulS (cf p a) (cf p b)) (2 ^ k) := fun t ht => (cf_deg a).mul (cf_deg b) t (by omega)
  have hval : ∀ i, i < 2 ^ k → F p ((zipM p (reva p a 1 (rootN p (2 ^ k)) (2 ^ k)) (reva p b 1 (rootN p (2 ^ k)) (2 ^ k))).getD i 0) = ev (2 ^ k) (mulS (cf p a) (cf p b)) (F p (rootN p (2 ^ k)) ^ i) := fun i hi => by
    unfold zipM
    rw [tab_get _ _ _ (by rw [lX]; exact hi), F_fmul hv, F_reva hv _ _ _ _ _ hi, F_reva hv _ _ _ _ _ hi, F_one]
    rw [← ev_more hdeg _ (2 ^ k + 2 ^ k) (by omega)] 
    rw [ev_mul (cf_deg a) (cf_deg b) _ _ (by omega), show (1 : Fin p) * F p (rootN p (2 ^ k)) ^ i = F p (rootN p (2 ^ k)) ^ i by grind]
  refine list_ext_F (p := p) (n := a.length + b.length - 1) (by rw [List.length_take, lT]; omega) (tab_len _ _) (fun t => ?_) (tab_lt (by omega) fun t _ => mout_lt hv _ _ _ _) fun t ht => ?_
  · have : ((tinv p k (zipM p (reva p a 1 (rootN p (2 ^ k)) (2 ^ k)) (reva p b 1 (rootN p (2 ^ k)) (2 ^ k))) (rootN p (2 ^ k)) (2 ^ k)).take (a.length + b.length - 1)).getD t 0 = if t < a.length + b.length - 1 then (tinv p k (zipM p (reva p a 1 (rootN p (2 ^ k)) (2 ^ k)) (reva p b 1 (rootN p (2 ^ k)) (2 ^ k))) (rootN p (2 ^ k)) (2 ^ k)).getD t 0 else 0 := by
      simp only [List.getD, List.getElem?_take]; split <;> simp
    rw [this]; split
    · unfold tinv; rw [map_getD (fun x => fmul p x (finv p _)) (fmul_z p _)]; exact fmul_lt hv
    · omega
  · have h1 := inv_values hv hk _ _ hval t (by omega)
    rw [List.getD_eq_getElem?_getD, List.getElem?_take, if_pos ht, ← List.getD_eq_getElem?_getD, h1]
    unfold tMul; rw [tab_get _ _ _ ht]
    have h2 := Fs_mout hv a b a.length (Nat.le_refl _)
    rw [List.take_length] at h2
    have h3 := congrFun h2 t
    exact h3.symm
end
theorem cf_tMul {p : Nat} [NeZero p] (hv : vld p = true) (a b : List Nat) (_ha : 0 < a.length) (_hb : 0 < b.length) : cf p (tMul p a b) = mulS (cf p a) (cf p b) := by
  have h2 := Fs_mout hv a b a.length (Nat.le_refl _)
  rw [List.take_length] at h2
  apply S.ext; intro t
  unfold cf tMul
  rw [tab_getD]
  split
  · exact congrFun h2 t
  · rw [F_zero]; exact ((cf_deg a).mul (cf_deg b) t (by omega)).symm
end Q
end Go.Proofs.Ytcnbinjoeilfgaa
