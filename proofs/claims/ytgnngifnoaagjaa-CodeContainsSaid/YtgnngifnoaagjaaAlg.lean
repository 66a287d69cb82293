/- Polynomials over the residues modulo p, as sequences of coefficients. -/
import Derived.Test.YtgnngifnoaagjaaPr
set_option linter.unusedSectionVars false
namespace Go.Proofs.Ytgnngifnoaagjaa.Q
section
variable {p : Nat} [NeZero p]
def S (p : Nat) := Nat → Fin p
def tl (f : S p) : S p := fun t => f (t + 1)
def sh (f : S p) : S p
  | 0 => 0
  | t + 1 => f t
def addS (f g : S p) : S p := fun t => f t + g t
def subS (f g : S p) : S p := fun t => f t - g t
def smul (c : Fin p) (f : S p) : S p := fun t => c * f t
def zeroS : S p := fun _ => 0
def C (c : Fin p) : S p := fun t => if t = 0 then c else 0
def lin (x : Fin p) : S p := fun t => if t = 0 then -x else if t = 1 then 1 else 0
def mulS (f g : S p) : S p := fun t => go f t
where go (f : S p) : Nat → Fin p
  | 0 => f 0 * g 0
  | t + 1 => f 0 * g (t + 1) + go (tl f) t
theorem mulS_zero (f g : S p) : mulS f g 0 = f 0 * g 0 := rfl
theorem mulS_succ (f g : S p) (t : Nat) : mulS f g (t + 1) = f 0 * g (t + 1) + mulS (tl f) g t := rfl
theorem S.ext {f g : S p} (h : ∀ t, f t = g t) : f = g := funext h
theorem mulS_add_l (f g h : S p) : mulS (addS f g) h = addS (mulS f h) (mulS g h) := by
  apply S.ext; intro t
  induction t generalizing f g with
  | zero => simp only [addS, mulS_zero]; grind
  | succ t ih =>
    have : tl (addS f g) = addS (tl f) (tl g) := rfl
    have e := ih (tl f) (tl g)
    simp only [mulS_succ, this, addS] at e ⊢
    rw [e]; grind
theorem mulS_add_r (f g h : S p) : mulS f (addS g h) = addS (mulS f g) (mulS f h) := by
  apply S.ext; intro t
  induction t generalizing f with
  | zero => simp only [addS, mulS_zero]; grind
  | succ t ih =>
    have e := ih (tl f)
    simp only [mulS_succ, addS] at e ⊢
    rw [e]; grind
theorem mulS_sub_l (f g h : S p) : mulS (subS f g) h = subS (mulS f h) (mulS g h) := by
  apply S.ext; intro t
  induction t generalizing f g with
  | zero => simp only [subS, mulS_zero]; grind
  | succ t ih =>
    have : tl (subS f g) = subS (tl f) (tl g) := rfl
    have e := ih (tl f) (tl g)
    simp only [mulS_succ, this, subS] at e ⊢
    rw [e]; grind
theorem mulS_smul_l (c : Fin p) (f g : S p) : mulS (smul c f) g = smul c (mulS f g) := by
  apply S.ext; intro t
  induction t generalizing f with
  | zero => simp only [smul, mulS_zero]; grind
  | succ t ih =>
    have : tl (smul c f) = smul c (tl f) := rfl
    have e := ih (tl f)
    simp only [mulS_succ, this, smul] at e ⊢
    rw [e]; grind
theorem mulS_succ_r (f g : S p) (t : Nat) : mulS f g (t + 1) = f (t + 1) * g 0 + mulS f (tl g) t := by
  induction t generalizing f with
  | zero => simp only [mulS_succ, mulS_zero, tl]; grind
  | succ t ih =>
    rw [mulS_succ, ih (tl f), mulS_succ f (tl g)]
    simp only [tl]; grind
theorem mulS_comm (f g : S p) : mulS f g = mulS g f := by
  apply S.ext; intro t
  induction t generalizing f g with
  | zero => simp only [mulS_zero]; grind
  | succ t ih => rw [mulS_succ, mulS_succ_r g f, ih (tl f) g]; grind
theorem mulS_smul_r (c : Fin p) (f g : S p) : mulS f (smul c g) = smul c (mulS f g) := by
  rw [mulS_comm, mulS_smul_l, mulS_comm]
theorem tl_mulS (f g : S p) : tl (mulS f g) = addS (smul (f 0) (tl g)) (mulS (tl f) g) := by
  apply S.ext; intro t; simp only [tl, addS, smul, mulS_succ]
theorem mulS_assoc (f g h : S p) : mulS (mulS f g) h = mulS f (mulS g h) := by
  apply S.ext; intro t
  induction t generalizing f with
  | zero => simp only [mulS_zero]; grind
  | succ t ih =>
    rw [mulS_succ, tl_mulS, mulS_add_l, mulS_smul_l, mulS_succ f]
    have e := ih (tl f)
    simp only [addS, smul, mulS_zero]
    rw [e, mulS_succ g h]; grind
theorem mulS_C (c : Fin p) (f : S p) : mulS (C c) f = smul c f := by
  have hz : ∀ (g : S p) t, mulS zeroS g t = 0 := fun g t => by
    induction t with
    | zero => simp only [mulS_zero, zeroS]; grind
    | succ t ih =>
      have : tl (zeroS : S p) = zeroS := rfl
      rw [mulS_succ, this, ih]; simp only [zeroS]; grind
  apply S.ext; intro t
  cases t with
  | zero => rfl
  | succ t =>
    have : tl (C c) = (zeroS : S p) := by apply S.ext; intro t; simp [tl, C, zeroS]
    rw [mulS_succ, this, hz]; simp only [C, smul]; grind
theorem mulS_split (f g : S p) : mulS f g = addS (smul (f 0) g) (sh (mulS (tl f) g)) := by
  apply S.ext; intro t
  cases t with
  | zero => simp only [mulS_zero, addS, smul, sh]; grind
  | succ t => simp only [mulS_succ, addS, smul, sh]
def DegLt (f : S p) (n : Nat) : Prop := ∀ t, n ≤ t → f t = 0
theorem DegLt.mono {f : S p} {m n : Nat} (h : DegLt f m) (hmn : m ≤ n) : DegLt f n := fun t ht => h t (by omega)
theorem DegLt.tl {f : S p} {n : Nat} (h : DegLt f (n + 1)) : DegLt (Q.tl f) n := fun t ht => h (t + 1) (by omega)
theorem DegLt.add {f g : S p} {n : Nat} (h : DegLt f n) (k : DegLt g n) : DegLt (addS f g) n := fun t ht => by simp only [addS, h t ht, k t ht]; grind
theorem DegLt.sub {f g : S p} {n : Nat} (h : DegLt f n) (k : DegLt g n) : DegLt (subS f g) n := fun t ht => by simp only [subS, h t ht, k t ht]; grind
theorem DegLt.smul {f : S p} {n : Nat} (h : DegLt f n) (c : Fin p) : DegLt (Q.smul c f) n := fun t ht => by simp only [Q.smul, h t ht]; grind
theorem deg_zero {f : S p} (h : DegLt f 0) : f = zeroS := S.ext fun t => h t (Nat.zero_le _)
theorem mulS_zeroS (g : S p) : mulS zeroS g = zeroS := by
  apply S.ext; intro t
  induction t with
  | zero => simp only [mulS_zero, zeroS]; grind
  | succ t ih =>
    have : Q.tl (zeroS : S p) = zeroS := rfl
    rw [mulS_succ, this, ih]; simp only [zeroS]; grind
theorem DegLt.mul {f g : S p} {m n : Nat} (h : DegLt f m) (k : DegLt g n) : ∀ t, m + n ≤ t + 1 → mulS f g t = 0 := by
  induction m generalizing f with
  | zero => intro t _; rw [deg_zero h, mulS_zeroS]; rfl
  | succ m ih =>
    intro t ht
    cases t with
    | zero =>
      have : n = 0 := by omega
      subst this
      rw [mulS_zero, k 0 (Nat.le_refl _)]; grind
    | succ t => rw [mulS_succ, k (t + 1) (by omega), ih h.tl t (by omega)]; grind
theorem mul_top {f g : S p} {m n : Nat} (h : DegLt f (m + 1)) (k : DegLt g (n + 1)) : mulS f g (m + n) = f m * g n := by
  induction m generalizing f with
  | zero =>
    cases n with
    | zero => rfl
    | succ n =>
      have : Q.tl f = zeroS := deg_zero h.tl
      rw [Nat.zero_add, mulS_succ, this, mulS_zeroS]; simp only [zeroS]; grind
  | succ m ih =>
    rw [show m + 1 + n = (m + n) + 1 by omega, mulS_succ, k (m + n + 1) (by omega), ih h.tl]
    simp only [Q.tl]; grind
/-- The value of the first n coefficients at x. -/
def ev : Nat → S p → Fin p → Fin p
  | 0, _, _ => 0
  | n + 1, f, x => f 0 + x * ev n (tl f) x
theorem ev_add (f g : S p) (x : Fin p) : ∀ n, ev n (addS f g) x = ev n f x + ev n g x := by
  intro n
  induction n generalizing f g with
  | zero => simp only [ev]; grind
  | succ n ih =>
    have : tl (addS f g) = addS (tl f) (tl g) := rfl
    simp only [ev, this, ih]; simp only [addS]; grind
theorem ev_sub (f g : S p) (x : Fin p) : ∀ n, ev n (subS f g) x = ev n f x - ev n g x := by
  intro n
  induction n generalizing f g with
  | zero => simp only [ev]; grind
  | succ n ih =>
    have : tl (subS f g) = subS (tl f) (tl g) := rfl
    simp only [ev, this, ih]; simp only [subS]; grind
theorem ev_smul (c : Fin p) (f : S p) (x : Fin p) : ∀ n, ev n (smul c f) x = c * ev n f x := by
  intro n
  induction n generalizing f with
  | zero => simp only [ev]; grind
  | succ n ih =>
    have : tl (smul c f) = smul c (tl f) := rfl
    simp only [ev, this, ih]; simp only [smul]; grind
theorem ev_zeroS (x : Fin p) : ∀ n, ev n zeroS x = 0
  | 0 => rfl
  | n + 1 => by
    have : tl (zeroS : S p) = zeroS := rfl
    rw [ev, this, ev_zeroS x n]; simp only [zeroS]; grind
theorem ev_more {f : S p} {n : Nat} (h : DegLt f n) (x : Fin p) : ∀ k, n ≤ k → ev k f x = ev n f x := by
  induction n generalizing f with
  | zero => intro k _; rw [deg_zero h, ev_zeroS]; rfl
  | succ n ih =>
    intro k hk
    obtain ⟨k, rfl⟩ : ∃ j, k = j + 1 := ⟨k - 1, by omega⟩
    rw [ev, ev, ih h.tl k (by omega)]
theorem ev_sh (f : S p) (n : Nat) (x : Fin p) : ev (n + 1) (sh f) x = x * ev n f x := by
  have : tl (sh f) = f := rfl
  rw [ev, this]; simp only [sh]; grind
theorem ev_mul {f g : S p} {m n : Nat} (h : DegLt f m) (k : DegLt g n) (x : Fin p) : ∀ s, m + n ≤ s → ev s (mulS f g) x = ev m f x * ev n g x := by
  induction m generalizing f with
  | zero => intro s _; rw [deg_zero h, mulS_zeroS, ev_zeroS]; simp only [ev]; grind
  | succ m ih =>
    intro s hs
    obtain ⟨s, rfl⟩ : ∃ j, s = j + 1 := ⟨s - 1, by omega⟩
    rw [mulS_split, ev_add, ev_smul, ev_sh, ih h.tl s (by omega), ev_more k x (s + 1) (by omega), ev]; grind
/-! ### lin -/
theorem lin_mul (x : Fin p) (f : S p) : mulS (lin x) f = subS (sh f) (smul x f) := by
  have h1 : tl (lin x) = C 1 := by
    apply S.ext; intro t
    cases t <;> simp [tl, lin, C]
  rw [mulS_split, h1, mulS_C]
  apply S.ext; intro t
  have e0 : lin x 0 = -x := by simp [lin]
  cases t with
  | zero => simp only [addS, smul, sh, subS, e0]; grind
  | succ t => simp only [addS, smul, sh, subS, e0]; grind
theorem lin_deg (x : Fin p) : DegLt (lin x) 2 := fun t ht => by simp only [lin]; rw [if_neg (by omega), if_neg (by omega)]
theorem lin_ev (x y : Fin p) : ev 2 (lin x) y = y - x := by
  simp only [ev, tl, lin]; simp; grind
end
end Go.Proofs.Ytgnngifnoaagjaa.Q
