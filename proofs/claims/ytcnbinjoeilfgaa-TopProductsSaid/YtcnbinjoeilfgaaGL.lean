/- Pr Alg Link Math1 Math2 Math3 Math4, merged. -/
import Derived.Test.YtcnbinjoeilfgaaGA
import Derived.Test.YtcnbinjoeilfgaaGP
/- The seven primes. -/
namespace Go.Proofs.Ytcnbinjoeilfgaa.Q
def Pr (p : Nat) : Prop := 2 ≤ p ∧ ∀ d, d ∣ p → d = 1 ∨ d = p
theorem Pr.euclid {p : Nat} (hp : Pr p) {a b : Nat} (h : p ∣ a * b) : p ∣ a ∨ p ∣ b := by
  rcases hp.2 (Nat.gcd p a) (Nat.gcd_dvd_left p a) with h1 | h1
  · exact .inr (Nat.Coprime.dvd_of_dvd_mul_left h1 h)
  · left; rw [← h1]; exact Nat.gcd_dvd_right p a
/-- Binomials. -/
def ch : Nat → Nat → Nat
  | _, 0 => 1
  | 0, _ + 1 => 0
  | n + 1, k + 1 => ch n k + ch n (k + 1)
theorem ch_zero (n : Nat) : ch n 0 = 1 := by cases n <;> rfl
theorem ch_gt : ∀ n k, n < k → ch n k = 0
  | 0, k + 1, _ => rfl
  | n + 1, k + 1, h => by rw [ch, ch_gt n k (by omega), ch_gt n (k + 1) (by omega)]
theorem ch_self : ∀ n, ch n n = 1
  | 0 => rfl
  | n + 1 => by rw [ch, ch_self n, ch_gt n (n + 1) (by omega)]
theorem ch_mul : ∀ n k, (k + 1) * ch (n + 1) (k + 1) = (n + 1) * ch n k
  | 0, 0 => rfl
  | 0, k + 1 => by simp [ch]
  | n + 1, 0 => by
    have := ch_mul n 0
    simp only [ch, ch_zero] at this ⊢; omega
  | n + 1, k + 1 => by
    have h1 := ch_mul n k
    have h2 := ch_mul n (k + 1)
    have e : ch (n + 1 + 1) (k + 1 + 1) = ch (n + 1) (k + 1) + ch (n + 1) (k + 1 + 1) := rfl
    have e2 : ch (n + 1) (k + 1) = ch n k + ch n (k + 1) := rfl
    rw [e]
    have h3 : (k + 1 + 1) * ch (n + 1) (k + 1) = (n + 1) * ch n k + ch (n + 1) (k + 1) := by rw [← h1]; grind
    rw [Nat.mul_add, h3, h2, e2]; grind
/-- Sums. -/
def sm : Nat → (Nat → Nat) → Nat
  | 0, _ => 0
  | n + 1, f => sm n f + f n
theorem sm_add (f g : Nat → Nat) : ∀ n, sm n (fun i => f i + g i) = sm n f + sm n g
  | 0 => rfl
  | n + 1 => by simp only [sm, sm_add f g n]; omega
theorem sm_mul (c : Nat) (f : Nat → Nat) : ∀ n, sm n (fun i => c * f i) = c * sm n f
  | 0 => by simp [sm]
  | n + 1 => by simp only [sm, sm_mul c f n, Nat.mul_add]
theorem sm_first (f : Nat → Nat) : ∀ n, sm (n + 1) f = f 0 + sm n (fun i => f (i + 1))
  | 0 => by simp [sm]
  | n + 1 => by rw [sm, sm_first f n, sm]; omega
theorem sm_congr {f g : Nat → Nat} : ∀ n, (∀ i, i < n → f i = g i) → sm n f = sm n g
  | 0, _ => rfl
  | n + 1, h => by rw [sm, sm, sm_congr n (fun i hi => h i (by omega)), h n (by omega)]
theorem sm_dvd {p : Nat} {f : Nat → Nat} : ∀ n, (∀ i, i < n → p ∣ f i) → p ∣ sm n f
  | 0, _ => by simp [sm]
  | n + 1, h => by rw [sm]; exact Nat.dvd_add (sm_dvd n (fun i hi => h i (by omega))) (h n (by omega))
theorem binom (a : Nat) : ∀ n, (a + 1) ^ n = sm (n + 1) (fun k => ch n k * a ^ k)
  | 0 => by simp [sm, ch]
  | n + 1 => by
    rw [Nat.pow_succ, binom a n, sm_first (fun k => ch (n + 1) k * a ^ k)]
    have e : sm (n + 1) (fun i => ch (n + 1) (i + 1) * a ^ (i + 1)) = sm (n + 1) (fun i => a * (ch n i * a ^ i)) + sm (n + 1) (fun i => ch n (i + 1) * a ^ (i + 1)) := by
      rw [← sm_add]; apply sm_congr; intro i _
      show (ch n i + ch n (i + 1)) * a ^ (i + 1) = _
      rw [Nat.pow_succ]; grind
    rw [e, sm_mul]
    have e2 : sm (n + 1) (fun i => ch n (i + 1) * a ^ (i + 1)) + 1 = sm (n + 1) (fun k => ch n k * a ^ k) := by
      have h1 := sm_first (fun k => ch n k * a ^ k) (n + 1)
      have h2 : sm (n + 1 + 1) (fun k => ch n k * a ^ k) = sm (n + 1) (fun k => ch n k * a ^ k) := by rw [sm, ch_gt n (n + 1) (by omega)]; simp
      rw [h2] at h1
      simp only [ch_zero, Nat.pow_zero, Nat.mul_one] at h1
      omega
    simp only [ch_zero, Nat.pow_zero, Nat.mul_one]
    generalize sm (n + 1) (fun k => ch n k * a ^ k) = s at *
    generalize sm (n + 1) (fun i => ch n (i + 1) * a ^ (i + 1)) = t at *
    rw [Nat.mul_add, Nat.mul_comm s a]; omega
theorem Pr.ch_dvd {p : Nat} (hp : Pr p) (k : Nat) (h0 : 0 < k) (hk : k < p) : p ∣ ch p k := by
  obtain ⟨k, rfl⟩ : ∃ j, k = j + 1 := ⟨k - 1, by omega⟩
  obtain ⟨n, rfl⟩ : ∃ m, p = m + 1 := ⟨p - 1, by have := hp.1; omega⟩
  have h := ch_mul n k
  have hd : (n + 1) ∣ (k + 1) * ch (n + 1) (k + 1) := by rw [h]; exact Nat.dvd_mul_right _ _
  rcases hp.euclid hd with h1 | h1
  · exact absurd (Nat.le_of_dvd (by omega) h1) (by omega)
  · exact h1
theorem Pr.frob {p : Nat} (hp : Pr p) (a : Nat) : (a + 1) ^ p % p = (a ^ p + 1) % p := by
  obtain ⟨n, rfl⟩ : ∃ m, p = m + 1 := ⟨p - 1, by have := hp.1; omega⟩
  rw [binom a (n + 1), sm, sm_first, ch_self, ch_zero]
  have hd : (n + 1) ∣ sm n (fun i => ch (n + 1) (i + 1) * a ^ (i + 1)) := sm_dvd n (fun i hi => Nat.dvd_trans (hp.ch_dvd (i + 1) (by omega) (by omega)) (Nat.dvd_mul_right _ _))
  obtain ⟨c, hc⟩ := hd
  rw [hc]
  have e : 1 * a ^ 0 + (n + 1) * c + 1 * a ^ (n + 1) = a ^ (n + 1) + 1 + (n + 1) * c := by simp; omega
  rw [e, Nat.add_mul_mod_self_left]
theorem Pr.fermat' {p : Nat} (hp : Pr p) : ∀ a, a ^ p % p = a % p
  | 0 => by have := hp.1; rw [Nat.zero_pow (by omega)]
  | a + 1 => by rw [hp.frob a, Nat.add_mod, hp.fermat' a, ← Nat.add_mod]
theorem Pr.fermat {p : Nat} (hp : Pr p) {a : Nat} (ha : ¬ p ∣ a) : a ^ (p - 1) % p = 1 := by
  have h1 := hp.fermat' a
  have h2 := hp.1
  have e : a ^ p = a * a ^ (p - 1) := by rw [← Nat.pow_succ', show (p - 1).succ = p by omega]
  have hpos : 1 ≤ a ^ (p - 1) := Nat.one_le_iff_ne_zero.2 (fun h => ha (by
    have : a = 0 := by
      rcases Nat.eq_zero_or_pos a with h0 | h0
      · exact h0
      · have := Nat.pow_pos (n := p - 1) h0; omega
    rw [this]; exact Nat.dvd_zero _))
  have hd : p ∣ a * (a ^ (p - 1) - 1) := by
    rw [Nat.mul_sub, Nat.mul_one, ← e]
    exact Nat.dvd_of_mod_eq_zero (Nat.sub_mod_eq_zero_of_mod_eq h1)
  rcases hp.euclid hd with h | h
  · exact absurd h ha
  · obtain ⟨c, hc⟩ := h
    have h3 : a ^ (p - 1) = 1 + p * c := by omega
    rw [h3, Nat.add_mul_mod_self_left, Nat.mod_eq_of_lt (by omega)]
theorem exists_pr : ∀ n, 2 ≤ n → ∃ q, Pr q ∧ q ∣ n := by
  intro n
  induction n using Nat.strongRecOn with
  | _ n ih =>
    intro hn
    by_cases h : ∀ d, d ∣ n → d = 1 ∨ d = n
    · exact ⟨n, ⟨hn, h⟩, Nat.dvd_refl n⟩
    · have : ∃ d, d ∣ n ∧ d ≠ 1 ∧ d ≠ n := by
        rcases Classical.em (∃ d, d ∣ n ∧ d ≠ 1 ∧ d ≠ n) with h1 | h1
        · exact h1
        · refine absurd (fun d hd => ?_) h
          rcases Classical.em (d = 1) with h2 | h2
          · exact .inl h2
          · rcases Classical.em (d = n) with h3 | h3
            · exact .inr h3
            · exact absurd ⟨d, hd, h2, h3⟩ h1
      obtain ⟨d, hd, h1, h2⟩ := this
      have hle := Nat.le_of_dvd (by omega) hd
      have h0 : d ≠ 0 := fun e => by subst e; have := Nat.eq_zero_of_zero_dvd hd; omega
      obtain ⟨q, hq, hqd⟩ := ih d (by omega) (by omega)
      exact ⟨q, hq, Nat.dvd_trans hqd hd⟩
theorem pow_mod_one {q x m : Nat} (hq : 2 ≤ q) (h : x % q = 1) : x ^ m % q = 1 := by
  rw [Nat.pow_mod, h, Nat.one_pow, Nat.mod_eq_of_lt (by omega)]
theorem neg_pow_odd {q x : Nat} (h : q ∣ x + 1) : ∀ m, q ∣ x ^ (2 * m + 1) + 1
  | 0 => by simpa using h
  | m + 1 => by
    have ih := neg_pow_odd h m
    have e : x ^ (2 * (m + 1) + 1) + 1 + x * (x + 1) = x * x * (x ^ (2 * m + 1) + 1) + (x + 1) := by
      have : x ^ (2 * (m + 1) + 1) = x * x * x ^ (2 * m + 1) := by rw [show 2 * (m + 1) + 1 = 2 * m + 1 + 2 by omega, Nat.pow_add]; grind
      rw [this]; grind
    have h1 : q ∣ x * x * (x ^ (2 * m + 1) + 1) + (x + 1) := Nat.dvd_add (Nat.dvd_trans ih (Nat.dvd_mul_left _ _)) h
    rw [← e] at h1
    exact (Nat.dvd_add_left (Nat.dvd_trans h (Nat.dvd_mul_left _ _))).1 h1
/-- Pocklington's step: b^(2^k e) with k + 1 twos. -/
theorem pock_step {q b e k : Nat} (hq : Pr q) (hodd : q ≠ 2) (h : q ∣ b ^ (2 ^ k * e) + 1) : ∀ j, j ≤ k + 1 → 2 ^ j ∣ q - 1
  | 0, _ => by simp
  | j + 1, hj => by
    obtain ⟨m, hm⟩ := pock_step hq hodd h j (by omega)
    rcases Nat.mod_two_eq_zero_or_one m with h0 | h1
    · refine ⟨m / 2, ?_⟩
      rw [hm, Nat.pow_succ, Nat.mul_assoc]; congr 1; omega
    · exfalso
      have hb : ¬ q ∣ b ^ e := fun hd => by
        have h2 : q ∣ b ^ (2 ^ k * e) := by
          rw [Nat.mul_comm, Nat.pow_mul]
          have : 2 ^ k = (2 ^ k - 1) + 1 := by have := Nat.two_pow_pos k; omega
          rw [this, Nat.pow_succ]; exact Nat.dvd_trans hd (Nat.dvd_mul_left _ _)
        have h3 := (Nat.dvd_add_right h2).1 h
        have := Nat.le_of_dvd (by omega) h3
        have := hq.1; omega
      have hf := hq.fermat hb
      have h4 : ((b ^ e) ^ (q - 1)) ^ (2 ^ (k - j)) % q = 1 := pow_mod_one hq.1 hf
      have h5 := neg_pow_odd h (m / 2)
      have e1 : ((b ^ e) ^ (q - 1)) ^ (2 ^ (k - j)) = (b ^ (2 ^ k * e)) ^ (2 * (m / 2) + 1) := by
        rw [← Nat.pow_mul, ← Nat.pow_mul, ← Nat.pow_mul, hm, show 2 * (m / 2) + 1 = m by omega]
        congr 1
        have : 2 ^ k = 2 ^ j * 2 ^ (k - j) := by rw [← Nat.pow_add]; congr 1; omega
        rw [this]; grind
      rw [← e1] at h5
      generalize ((b ^ e) ^ (q - 1)) ^ (2 ^ (k - j)) = y at h4 h5
      have h6 : (y + 1) % q = 0 := Nat.mod_eq_zero_of_dvd h5
      rw [Nat.add_mod, h4] at h6
      have h7 := hq.1
      rcases Nat.lt_or_ge 2 q with h8 | h8
      · rw [Nat.mod_eq_of_lt (a := 1) (by omega), Nat.mod_eq_of_lt (by omega)] at h6; omega
      · omega
/-- Powers modulo n, fast. -/
def pm : Nat → Nat → Nat → Nat → Nat
  | 0, _, _, _ => 1
  | f + 1, b, e, n => if e = 0 then 1 else if e % 2 = 1 then b * pm f (b * b % n) (e / 2) n % n else pm f (b * b % n) (e / 2) n
theorem pm_spec (n : Nat) : ∀ f b e, e < 2 ^ f → pm f b e n % n = b ^ e % n
  | 0, b, e, h => by
    have : e = 0 := by simpa using h
    subst this; simp [pm]
  | f + 1, b, e, h => by
    rw [pm]
    have h2 : e / 2 < 2 ^ f := by rw [Nat.pow_succ] at h; omega
    have ih := pm_spec n f (b * b % n) (e / 2) h2
    have e1 : (b * b % n) ^ (e / 2) % n = b ^ (2 * (e / 2)) % n := by rw [← Nat.pow_mod, Nat.pow_mul, Nat.pow_two]
    split
    · rename_i h0; rw [h0]; simp
    · split
      · rename_i h1
        rw [Nat.mod_mod, Nat.mul_mod, ih, e1, ← Nat.mul_mod, ← Nat.pow_succ', show (2 * (e / 2)).succ = e by omega]
      · rename_i h1
        rw [ih, e1, show 2 * (e / 2) = e by omega]
theorem big_half : pm 64 7 (2 ^ 31 * 4294967295) 18446744069414584321 = 18446744069414584320 := by decide +kernel
theorem pr_big : Pr 18446744069414584321 := by
  refine ⟨by decide, fun d hd => ?_⟩
  have key : ∀ q, Pr q → q ∣ 18446744069414584321 → 4294967297 ≤ q := by
    intro q hq hdv
    have hodd : q ≠ 2 := fun e => by subst e; revert hdv; decide
    obtain ⟨e, he⟩ : ∃ e, e = 4294967295 := ⟨_, rfl⟩
    have h1 : 18446744069414584321 ∣ 7 ^ (2 ^ 31 * e) + 1 := by
      have hb : pm 64 7 (2 ^ 31 * e) 18446744069414584321 = 18446744069414584320 := by rw [he]; exact big_half
      have hs := pm_spec 18446744069414584321 64 7 (2 ^ 31 * e) (by rw [he]; decide)
      rw [hb] at hs
      apply Nat.dvd_of_mod_eq_zero
      rw [Nat.add_mod, ← hs]
    have h2 := pock_step (k := 31) hq hodd (Nat.dvd_trans hdv h1) 32 (by omega)
    have h3 := Nat.le_of_dvd (by have := hq.1; omega) h2
    have : (2 : Nat) ^ 32 = 4294967296 := by decide
    omega
  by_cases h1 : d = 1
  · exact .inl h1
  by_cases h2 : d = 18446744069414584321
  · exact .inr h2
  exfalso
  obtain ⟨c, hc⟩ := hd
  have hd0 : d ≠ 0 := fun e => by subst e; simp at hc
  have hc0 : c ≠ 0 := fun e => by subst e; simp at hc
  have hc1 : c ≠ 1 := fun e => by subst e; omega
  obtain ⟨q, hq, hqd⟩ := exists_pr d (by omega)
  obtain ⟨r, hr, hrc⟩ := exists_pr c (by omega)
  have k1 := key q hq (Nat.dvd_trans hqd ⟨c, hc⟩)
  have k2 := key r hr (Nat.dvd_trans hrc ⟨d, by rw [hc, Nat.mul_comm]⟩)
  have l1 := Nat.le_of_dvd (by omega) hqd
  have l2 := Nat.le_of_dvd (by omega) hrc
  have : 4294967297 * 4294967297 ≤ d * c := Nat.mul_le_mul (by omega) (by omega)
  omega
/-- Trial division. -/
def trial (n k : Nat) : Bool := (List.range k).all fun d => d < 2 || n % d != 0
theorem pr_of_trial {n k : Nat} (h2 : 2 ≤ n) (ht : trial n k = true) (hk : n < k * k) : Pr n := by
  have hno : ∀ d, 2 ≤ d → d < k → ¬ d ∣ n := fun d h1 h3 hd => by
    unfold trial at ht
    rw [List.all_eq_true] at ht
    have := ht d (by simpa using h3)
    simp only [Bool.or_eq_true, decide_eq_true_eq, bne_iff_ne] at this
    rcases this with h | h
    · omega
    · exact h (Nat.mod_eq_zero_of_dvd hd)
  refine ⟨h2, fun d hd => ?_⟩
  by_cases h1 : d = 1
  · exact .inl h1
  by_cases h3 : d = n
  · exact .inr h3
  exfalso
  obtain ⟨c, hc⟩ := hd
  have hd0 : d ≠ 0 := fun e => by subst e; simp at hc; omega
  have hc0 : c ≠ 0 := fun e => by subst e; simp at hc; omega
  have hc1 : c ≠ 1 := fun e => by subst e; omega
  have hdk : k ≤ d := by
    rcases Nat.lt_or_ge d k with h | h
    · exact absurd ⟨c, hc⟩ (hno d (by omega) h)
    · exact h
  have hck : k ≤ c := by
    rcases Nat.lt_or_ge c k with h | h
    · exact absurd ⟨d, by rw [hc, Nat.mul_comm]⟩ (hno c (by omega) h)
    · exact h
  have := Nat.mul_le_mul hdk hck
  omega
theorem pr_17 : Pr 17 := pr_of_trial (k := 5) (by decide) (by decide) (by decide)
theorem pr_97 : Pr 97 := pr_of_trial (k := 10) (by decide) (by decide) (by decide)
theorem pr_193 : Pr 193 := pr_of_trial (k := 14) (by decide) (by decide) (by decide)
theorem pr_257 : Pr 257 := pr_of_trial (k := 17) (by decide) (by decide +kernel) (by decide)
theorem pr_12289 : Pr 12289 := pr_of_trial (k := 111) (by decide) (by decide +kernel) (by decide)
theorem pr_65537 : Pr 65537 := pr_of_trial (k := 257) (by decide) (by decide +kernel) (by decide)
end Go.Proofs.Ytcnbinjoeilfgaa.Q


/- Polynomials over the residues modulo p, as sequences of coefficients. -/
set_option linter.unusedSectionVars false
namespace Go.Proofs.Ytcnbinjoeilfgaa.Q
section
variable {p : Nat} [NeZero p]
def S (p : Nat) := Nat → Fin p
def tl (f : S p) : S p := fun t => f (t + 1)
def sh (f : S p) : S p
  | 0 => 0
  | t + 1 => f t
def addS (f g : S p) : S p := fun t => f t + g t
def subS (f g : S p) : S p := fun t => f t - g t
def smul (c : Fin p) (f : S p) : S p := fun t => c * f t
def zeroS : S p := fun _ => 0
def C (c : Fin p) : S p := fun t => if t = 0 then c else 0
def lin (x : Fin p) : S p := fun t => if t = 0 then -x else if t = 1 then 1 else 0
def mulS (f g : S p) : S p := fun t => go f t
where go (f : S p) : Nat → Fin p
  | 0 => f 0 * g 0
  | t + 1 => f 0 * g (t + 1) + go (tl f) t
theorem mulS_zero (f g : S p) : mulS f g 0 = f 0 * g 0 := rfl
theorem mulS_succ (f g : S p) (t : Nat) : mulS f g (t + 1) = f 0 * g (t + 1) + mulS (tl f) g t := rfl
theorem S.ext {f g : S p} (h : ∀ t, f t = g t) : f = g := funext h
theorem mulS_add_l (f g h : S p) : mulS (addS f g) h = addS (mulS f h) (mulS g h) := by
  apply S.ext; intro t
  induction t generalizing f g with
  | zero => simp only [addS, mulS_zero]; grind
  | succ t ih =>
    have : tl (addS f g) = addS (tl f) (tl g) := rfl
    have e := ih (tl f) (tl g)
    simp only [mulS_succ, this, addS] at e ⊢
    rw [e]; grind
theorem mulS_add_r (f g h : S p) : mulS f (addS g h) = addS (mulS f g) (mulS f h) := by
  apply S.ext; intro t
  induction t generalizing f with
  | zero => simp only [addS, mulS_zero]; grind
  | succ t ih =>
    have e := ih (tl f)
    simp only [mulS_succ, addS] at e ⊢
    rw [e]; grind
theorem mulS_sub_l (f g h : S p) : mulS (subS f g) h = subS (mulS f h) (mulS g h) := by
  apply S.ext; intro t
  induction t generalizing f g with
  | zero => simp only [subS, mulS_zero]; grind
  | succ t ih =>
    have : tl (subS f g) = subS (tl f) (tl g) := rfl
    have e := ih (tl f) (tl g)
    simp only [mulS_succ, this, subS] at e ⊢
    rw [e]; grind
theorem mulS_smul_l (c : Fin p) (f g : S p) : mulS (smul c f) g = smul c (mulS f g) := by
  apply S.ext; intro t
  induction t generalizing f with
  | zero => simp only [smul, mulS_zero]; grind
  | succ t ih =>
    have : tl (smul c f) = smul c (tl f) := rfl
    have e := ih (tl f)
    simp only [mulS_succ, this, smul] at e ⊢
    rw [e]; grind
theorem mulS_succ_r (f g : S p) (t : Nat) : mulS f g (t + 1) = f (t + 1) * g 0 + mulS f (tl g) t := by
  induction t generalizing f with
  | zero => simp only [mulS_succ, mulS_zero, tl]; grind
  | succ t ih =>
    rw [mulS_succ, ih (tl f), mulS_succ f (tl g)]
    simp only [tl]; grind
theorem mulS_comm (f g : S p) : mulS f g = mulS g f := by
  apply S.ext; intro t
  induction t generalizing f g with
  | zero => simp only [mulS_zero]; grind
  | succ t ih => rw [mulS_succ, mulS_succ_r g f, ih (tl f) g]; grind
theorem mulS_smul_r (c : Fin p) (f g : S p) : mulS f (smul c g) = smul c (mulS f g) := by
  rw [mulS_comm, mulS_smul_l, mulS_comm]
theorem tl_mulS (f g : S p) : tl (mulS f g) = addS (smul (f 0) (tl g)) (mulS (tl f) g) := by
  apply S.ext; intro t; simp only [tl, addS, smul, mulS_succ]
theorem mulS_assoc (f g h : S p) : mulS (mulS f g) h = mulS f (mulS g h) := by
  apply S.ext; intro t
  induction t generalizing f with
  | zero => simp only [mulS_zero]; grind
  | succ t ih =>
    rw [mulS_succ, tl_mulS, mulS_add_l, mulS_smul_l, mulS_succ f]
    have e := ih (tl f)
    simp only [addS, smul, mulS_zero]
    rw [e, mulS_succ g h]; grind
theorem mulS_C (c : Fin p) (f : S p) : mulS (C c) f = smul c f := by
  have hz : ∀ (g : S p) t, mulS zeroS g t = 0 := fun g t => by
    induction t with
    | zero => simp only [mulS_zero, zeroS]; grind
    | succ t ih =>
      have : tl (zeroS : S p) = zeroS := rfl
      rw [mulS_succ, this, ih]; simp only [zeroS]; grind
  apply S.ext; intro t
  cases t with
  | zero => rfl
  | succ t =>
    have : tl (C c) = (zeroS : S p) := by apply S.ext; intro t; simp [tl, C, zeroS]
    rw [mulS_succ, this, hz]; simp only [C, smul]; grind
theorem mulS_split (f g : S p) : mulS f g = addS (smul (f 0) g) (sh (mulS (tl f) g)) := by
  apply S.ext; intro t
  cases t with
  | zero => simp only [mulS_zero, addS, smul, sh]; grind
  | succ t => simp only [mulS_succ, addS, smul, sh]
def DegLt (f : S p) (n : Nat) : Prop := ∀ t, n ≤ t → f t = 0
theorem DegLt.mono {f : S p} {m n : Nat} (h : DegLt f m) (hmn : m ≤ n) : DegLt f n := fun t ht => h t (by omega)
theorem DegLt.tl {f : S p} {n : Nat} (h : DegLt f (n + 1)) : DegLt (Q.tl f) n := fun t ht => h (t + 1) (by omega)
theorem DegLt.add {f g : S p} {n : Nat} (h : DegLt f n) (k : DegLt g n) : DegLt (addS f g) n := fun t ht => by simp only [addS, h t ht, k t ht]; grind
theorem DegLt.sub {f g : S p} {n : Nat} (h : DegLt f n) (k : DegLt g n) : DegLt (subS f g) n := fun t ht => by simp only [subS, h t ht, k t ht]; grind
theorem DegLt.smul {f : S p} {n : Nat} (h : DegLt f n) (c : Fin p) : DegLt (Q.smul c f) n := fun t ht => by simp only [Q.smul, h t ht]; grind
theorem deg_zero {f : S p} (h : DegLt f 0) : f = zeroS := S.ext fun t => h t (Nat.zero_le _)
theorem mulS_zeroS (g : S p) : mulS zeroS g = zeroS := by
  apply S.ext; intro t
  induction t with
  | zero => simp only [mulS_zero, zeroS]; grind
  | succ t ih =>
    have : Q.tl (zeroS : S p) = zeroS := rfl
    rw [mulS_succ, this, ih]; simp only [zeroS]; grind
theorem DegLt.mul {f g : S p} {m n : Nat} (h : DegLt f m) (k : DegLt g n) : ∀ t, m + n ≤ t + 1 → mulS f g t = 0 := by
  induction m generalizing f with
  | zero => intro t _; rw [deg_zero h, mulS_zeroS]; rfl
  | succ m ih =>
    intro t ht
    cases t with
    | zero =>
      have : n = 0 := by omega
      subst this
      rw [mulS_zero, k 0 (Nat.le_refl _)]; grind
    | succ t => rw [mulS_succ, k (t + 1) (by omega), ih h.tl t (by omega)]; grind
theorem mul_top {f g : S p} {m n : Nat} (h : DegLt f (m + 1)) (k : DegLt g (n + 1)) : mulS f g (m + n) = f m * g n := by
  induction m generalizing f with
  | zero =>
    cases n with
    | zero => rfl
    | succ n =>
      have : Q.tl f = zeroS := deg_zero h.tl
      rw [Nat.zero_add, mulS_succ, this, mulS_zeroS]; simp only [zeroS]; grind
  | succ m ih =>
    rw [show m + 1 + n = (m + n) + 1 by omega, mulS_succ, k (m + n + 1) (by omega), ih h.tl]
    simp only [Q.tl]; grind
/-- The value of the first n coefficients at x. -/
def ev : Nat → S p → Fin p → Fin p
  | 0, _, _ => 0
  | n + 1, f, x => f 0 + x * ev n (tl f) x
theorem ev_add (f g : S p) (x : Fin p) : ∀ n, ev n (addS f g) x = ev n f x + ev n g x := by
  intro n
  induction n generalizing f g with
  | zero => simp only [ev]; grind
  | succ n ih =>
    have : tl (addS f g) = addS (tl f) (tl g) := rfl
    simp only [ev, this, ih]; simp only [addS]; grind
theorem ev_sub (f g : S p) (x : Fin p) : ∀ n, ev n (subS f g) x = ev n f x - ev n g x := by
  intro n
  induction n generalizing f g with
  | zero => simp only [ev]; grind
  | succ n ih =>
    have : tl (subS f g) = subS (tl f) (tl g) := rfl
    simp only [ev, this, ih]; simp only [subS]; grind
theorem ev_smul (c : Fin p) (f : S p) (x : Fin p) : ∀ n, ev n (smul c f) x = c * ev n f x := by
  intro n
  induction n generalizing f with
  | zero => simp only [ev]; grind
  | succ n ih =>
    have : tl (smul c f) = smul c (tl f) := rfl
    simp only [ev, this, ih]; simp only [smul]; grind
theorem ev_zeroS (x : Fin p) : ∀ n, ev n zeroS x = 0
  | 0 => rfl
  | n + 1 => by
    have : tl (zeroS : S p) = zeroS := rfl
    rw [ev, this, ev_zeroS x n]; simp only [zeroS]; grind
theorem ev_more {f : S p} {n : Nat} (h : DegLt f n) (x : Fin p) : ∀ k, n ≤ k → ev k f x = ev n f x := by
  induction n generalizing f with
  | zero => intro k _; rw [deg_zero h, ev_zeroS]; rfl
  | succ n ih =>
    intro k hk
    obtain ⟨k, rfl⟩ : ∃ j, k = j + 1 := ⟨k - 1, by omega⟩
    rw [ev, ev, ih h.tl k (by omega)]
theorem ev_sh (f : S p) (n : Nat) (x : Fin p) : ev (n + 1) (sh f) x = x * ev n f x := by
  have : tl (sh f) = f := rfl
  rw [ev, this]; simp only [sh]; grind
theorem ev_mul {f g : S p} {m n : Nat} (h : DegLt f m) (k : DegLt g n) (x : Fin p) : ∀ s, m + n ≤ s → ev s (mulS f g) x = ev m f x * ev n g x := by
  induction m generalizing f with
  | zero => intro s _; rw [deg_zero h, mulS_zeroS, ev_zeroS]; simp only [ev]; grind
  | succ m ih =>
    intro s hs
    obtain ⟨s, rfl⟩ : ∃ j, s = j + 1 := ⟨s - 1, by omega⟩
    rw [mulS_split, ev_add, ev_smul, ev_sh, ih h.tl s (by omega), ev_more k x (s + 1) (by omega), ev]; grind
/-! ### lin -/
theorem lin_mul (x : Fin p) (f : S p) : mulS (lin x) f = subS (sh f) (smul x f) := by
  have h1 : tl (lin x) = C 1 := by
    apply S.ext; intro t
    cases t <;> simp [tl, lin, C]
  rw [mulS_split, h1, mulS_C]
  apply S.ext; intro t
  have e0 : lin x 0 = -x := by simp [lin]
  cases t with
  | zero => simp only [addS, smul, sh, subS, e0]; grind
  | succ t => simp only [addS, smul, sh, subS, e0]; grind
theorem lin_deg (x : Fin p) : DegLt (lin x) 2 := fun t ht => by simp only [lin]; rw [if_neg (by omega), if_neg (by omega)]
theorem lin_ev (x y : Fin p) : ev 2 (lin x) y = y - x := by
  simp only [ev, tl, lin]; simp; grind
end
end Go.Proofs.Ytcnbinjoeilfgaa.Q

/- From numbers to residues, from lists to sequences of coefficients. -/
namespace Go.Proofs.Ytcnbinjoeilfgaa.Q
open Go.Proofs.Ytcnbinjoeilfgaa

theorem pr_vld {p : Nat} (h : vld p = true) : Pr p := by
  rcases vld_cases h with rfl | rfl | rfl | rfl | rfl | rfl | rfl
  · exact pr_17
  · exact pr_97
  · exact pr_193
  · exact pr_257
  · exact pr_12289
  · exact pr_65537
  · exact pr_big
theorem nz_vld {p : Nat} (h : vld p = true) : NeZero p := ⟨by have := vld_bd h; omega⟩
section
variable {p : Nat} [NeZero p]
def F (p : Nat) [NeZero p] (n : Nat) : Fin p := Fin.ofNat p n
theorem F_val (n : Nat) : (F p n).val = n % p := rfl
theorem F_eq {a b : Nat} : F p a = F p b ↔ a % p = b % p := by
  rw [Fin.ext_iff, F_val, F_val]
theorem F_of_val (x : Fin p) : F p x.val = x := by
  apply Fin.ext; rw [F_val, Nat.mod_eq_of_lt x.isLt]
theorem F_inj {a b : Nat} (ha : a < p) (hb : b < p) (h : F p a = F p b) : a = b := by
  rw [F_eq, Nat.mod_eq_of_lt ha, Nat.mod_eq_of_lt hb] at h; exact h
theorem F_zero : F p 0 = 0 := by apply Fin.ext; simp [F_val]
theorem F_one : F p 1 = 1 := by apply Fin.ext; rw [F_val]; rfl
theorem F_add (a b : Nat) : F p (a + b) = F p a + F p b := by
  apply Fin.ext; rw [Fin.val_add, F_val, F_val, F_val, Nat.add_mod]
theorem F_mul (a b : Nat) : F p (a * b) = F p a * F p b := by
  apply Fin.ext; rw [Fin.val_mul, F_val, F_val, F_val, Nat.mul_mod]
theorem F_mod (a : Nat) : F p (a % p) = F p a := by rw [F_eq, Nat.mod_mod]
theorem F_p : F p p = 0 := by rw [← F_mod, Nat.mod_self, F_zero]
theorem F_pow (a : Nat) : ∀ e, F p (a ^ e) = (F p a) ^ e
  | 0 => by rw [Nat.pow_zero, F_one]; grind
  | e + 1 => by rw [Nat.pow_succ, F_mul, F_pow a e]; grind
theorem F_fred (hv : vld p = true) (a : Nat) : F p (fred p a) = F p a := by unfold fred; rw [if_pos hv, F_mod]
theorem F_fadd (hv : vld p = true) (a b : Nat) : F p (fadd p a b) = F p a + F p b := by unfold fadd; rw [if_pos hv, F_mod, F_add]
theorem F_fmul (hv : vld p = true) (a b : Nat) : F p (fmul p a b) = F p a * F p b := by unfold fmul; rw [if_pos hv, F_mod, F_mul]
theorem F_fneg (hv : vld p = true) (a : Nat) : F p (fneg p a) = - F p a := by
  unfold fneg; rw [if_pos hv, F_mod]
  have h1 : F p (p - a % p) + F p (a % p) = 0 := by
    rw [← F_add, Nat.sub_add_cancel (Nat.le_of_lt (lt_of_mod hv)), F_p]
  rw [F_mod] at h1; grind
theorem F_fsub (hv : vld p = true) (a b : Nat) : F p (fsub p a b) = F p a - F p b := by
  unfold fsub; rw [F_fadd hv, F_fneg hv]; grind
theorem F_eq_zero {a : Nat} : F p a = 0 ↔ a % p = 0 := by rw [← F_zero, F_eq, Nat.zero_mod]
theorem noZD (hv : vld p = true) {x y : Fin p} (h : x * y = 0) : x = 0 ∨ y = 0 := by
  rw [← F_of_val x, ← F_of_val y, ← F_mul, F_eq_zero] at h
  rcases (pr_vld hv).euclid (Nat.dvd_of_mod_eq_zero h) with h1 | h1
  · left; rw [← F_of_val x, F_eq_zero]; exact Nat.mod_eq_zero_of_dvd h1
  · right; rw [← F_of_val y, F_eq_zero]; exact Nat.mod_eq_zero_of_dvd h1
theorem F_finv (hv : vld p = true) {a : Nat} (ha : F p a ≠ 0) : F p a * F p (finv p a) = 1 := by
  have hb := vld_bd hv
  unfold finv fpow; rw [if_pos hv, F_mod, ← F_mul, ← Nat.pow_succ', show (p - 2).succ = p - 1 by omega]
  have hnd : ¬ p ∣ a := fun h => ha (F_eq_zero.2 (Nat.mod_eq_zero_of_dvd h))
  rw [← F_mod, (pr_vld hv).fermat hnd, F_one]
theorem finv_zero (hv : vld p = true) {a : Nat} (ha : F p a = 0) : F p (finv p a) = 0 := by
  have hb := vld_bd hv
  unfold finv fpow; rw [if_pos hv, F_mod, F_pow, ha, show p - 2 = (p - 3) + 1 by omega]; grind
/-- The coefficients of a list. -/
def cf (p : Nat) [NeZero p] (l : List Nat) : S p := fun t => F p (l.getD t 0)
theorem cf_deg (l : List Nat) : DegLt (cf p l) l.length := fun t ht => by
  unfold cf; rw [List.getD_eq_getElem?_getD, List.getElem?_eq_none ht]; exact F_zero
theorem cf_cons (c : Nat) (l : List Nat) : tl (cf p (c :: l)) = cf p l := by
  apply S.ext; intro t; simp [tl, cf]
theorem cf_nil : cf p [] = zeroS := by apply S.ext; intro t; simp [cf, zeroS, F_zero]
end
/-! ### trimmed lists -/
theorem trimZ_getD (l : List Nat) (t : Nat) : (trimZ l).getD t 0 = l.getD t 0 := by
  induction l generalizing t with
  | nil => simp [trimZ]
  | cons x l ih =>
    rw [trimZ]
    split
    · rename_i h
      cases t with
      | zero => simp [h.1]
      | succ t =>
        have := ih t
        rw [h.2] at this
        simpa using this
    · cases t with
      | zero => simp
      | succ t => simpa using ih t
theorem trimZ_nil_iff (l : List Nat) : trimZ l = [] ↔ ∀ t, l.getD t 0 = 0 := by
  constructor
  · intro h t; rw [← trimZ_getD, h]; simp
  · intro h
    induction l with
    | nil => rfl
    | cons x l ih =>
      rw [trimZ, if_pos ⟨by simpa using h 0, ih (fun t => by simpa using h (t + 1))⟩]
theorem trimZ_ext {l m : List Nat} (h : ∀ t, l.getD t 0 = m.getD t 0) : trimZ l = trimZ m := by
  induction l generalizing m with
  | nil => rw [(trimZ_nil_iff m).2 (fun t => by rw [← h t]; simp)]; rfl
  | cons x l ih =>
    cases m with
    | nil => rw [(trimZ_nil_iff (x :: l)).2 (fun t => by rw [h t]; simp)]; rfl
    | cons y m =>
      have h0 : x = y := by simpa using h 0
      have h1 := ih (m := m) (fun t => by simpa using h (t + 1))
      rw [trimZ, trimZ, h0, h1]
theorem trimZ_idem (l : List Nat) : trimZ (trimZ l) = trimZ l := trimZ_ext (trimZ_getD l)
theorem trimmed_ext {l m : List Nat} (hl : trimZ l = l) (hm : trimZ m = m) (h : ∀ t, l.getD t 0 = m.getD t 0) : l = m := by
  rw [← hl, ← hm]; exact trimZ_ext h
theorem map_getD (f : Nat → Nat) (hf : f 0 = 0) (l : List Nat) (t : Nat) : (l.map f).getD t 0 = f (l.getD t 0) := by
  simp only [List.getD, List.getElem?_map]
  cases l[t]? <;> simp [hf]
theorem fred_zero (p : Nat) : fred p 0 = 0 := by unfold fred; split <;> simp
theorem trimP_getD (p : Nat) (l : List Nat) (t : Nat) : (trimP p l).getD t 0 = fred p (l.getD t 0) := by
  unfold trimP; rw [trimZ_getD, map_getD _ (fred_zero p)]
theorem fadd_zz (p : Nat) : fadd p 0 0 = 0 := by unfold fadd; split <;> simp
theorem fneg_z (p : Nat) : fneg p 0 = 0 := by unfold fneg; split <;> simp
theorem fsub_zz (p : Nat) : fsub p 0 0 = 0 := by unfold fsub; rw [fneg_z, fadd_zz]
theorem fmul_z (p x : Nat) : fmul p 0 x = 0 := by unfold fmul; split <;> simp
theorem addL_getD (p : Nat) (a b : List Nat) (t : Nat) : (addL p a b).getD t 0 = fadd p (a.getD t 0) (b.getD t 0) := by
  show (tab _ _).getD t 0 = _
  rw [tab_getD]
  split
  · rfl
  · rw [List.getD_eq_getElem?_getD, List.getD_eq_getElem?_getD, List.getElem?_eq_none (by omega), List.getElem?_eq_none (by omega)]; exact (fadd_zz p).symm
theorem subL_getD (p : Nat) (a b : List Nat) (t : Nat) : (subL p a b).getD t 0 = fsub p (a.getD t 0) (b.getD t 0) := by
  show (tab _ _).getD t 0 = _
  rw [tab_getD]
  split
  · rfl
  · rw [List.getD_eq_getElem?_getD, List.getD_eq_getElem?_getD, List.getElem?_eq_none (by omega), List.getElem?_eq_none (by omega)]; exact (fsub_zz p).symm
theorem fred_fadd (p a b : Nat) : fred p (fadd p a b) = fadd p a b := by unfold fred fadd; split <;> simp
theorem fred_fmul (p a b : Nat) : fred p (fmul p a b) = fmul p a b := by unfold fred fmul; split <;> simp
theorem fred_fred (p a : Nat) : fred p (fred p a) = fred p a := by unfold fred; split <;> simp
theorem radd_getD (p : Nat) (a b : List Nat) (t : Nat) : (radd p a b).getD t 0 = fadd p (a.getD t 0) (b.getD t 0) := by
  unfold radd; rw [trimP_getD, addL_getD, fred_fadd]
theorem rscale_getD (p : Nat) (a : List Nat) (n t : Nat) : (rscale p a n).getD t 0 = fmul p (a.getD t 0) n := by
  unfold rscale; rw [trimP_getD, map_getD (fun x => fmul p x n) (fmul_z p n), fred_fmul]
theorem trimP_trim (p : Nat) (l : List Nat) : trimZ (trimP p l) = trimP p l := trimZ_idem _
/-- Equal residues, both reduced. -/
theorem red_eq {p a b : Nat} [NeZero p] (ha : a < p) (hb : b < p) (h : F p a = F p b) : a = b := F_inj ha hb h
theorem fadd_lt {p a b : Nat} (h : vld p = true) : fadd p a b < p := by unfold fadd; rw [if_pos h]; exact lt_of_mod h
theorem fmul_lt {p a b : Nat} (h : vld p = true) : fmul p a b < p := by unfold fmul; rw [if_pos h]; exact lt_of_mod h
theorem fneg_lt {p a : Nat} (h : vld p = true) : fneg p a < p := by unfold fneg; rw [if_pos h]; exact lt_of_mod h
theorem fred_lt {p a : Nat} (h : vld p = true) : fred p a < p := by unfold fred; rw [if_pos h]; exact lt_of_mod h
theorem fsub_lt {p a b : Nat} (h : vld p = true) : fsub p a b < p := fadd_lt h
theorem fsub_mul (p x y : Nat) : fadd p x (fmul p y (fneg p 1)) = fsub p x y := by
  cases h : vld p
  · simp [fadd, fsub, h]
  · haveI := nz_vld h
    apply F_inj (p := p) (fadd_lt h) (fsub_lt h)
    rw [F_fadd h, F_fmul h, F_fneg h, F_fsub h, F_one]; grind
/-! ### PolySums -/
theorem add_same (p : Nat) (a b : List Nat) : trimZ (addL p a b) = radd p a b := by
  refine trimmed_ext (m := radd p a b) (trimZ_idem _) (trimP_trim _ _) fun t => ?_
  rw [trimZ_getD, addL_getD, radd_getD]
theorem sub_same (p : Nat) (a b : List Nat) : trimZ (subL p a b) = rsub p a b := by
  refine trimmed_ext (m := rsub p a b) (trimZ_idem _) (trimP_trim _ _) fun t => ?_
  rw [trimZ_getD, subL_getD]
  unfold rsub; rw [radd_getD, rscale_getD, fsub_mul]
theorem scale_same (p : Nat) (a : List Nat) (n : Nat) : trimZ (a.map fun x => fmul p x n) = rscale p a n := by
  refine trimmed_ext (m := rscale p a n) (trimZ_idem _) (trimP_trim _ _) fun t => ?_
  rw [trimZ_getD, map_getD (fun x => fmul p x n) (fmul_z p n), rscale_getD]
end Go.Proofs.Ytcnbinjoeilfgaa.Q

/- Products and values. -/
set_option linter.unusedSectionVars false
namespace Go.Proofs.Ytcnbinjoeilfgaa.Q
open Go.Proofs.Ytcnbinjoeilfgaa
section
variable {p : Nat} [NeZero p]
def mono (c : Fin p) (i : Nat) : S p := fun t => if t = i then c else 0
def shN (i : Nat) (g : S p) : S p := fun t => if i ≤ t then g (t - i) else 0
def Fs (R : Nat → Nat) : S p := fun t => F p (R t)
theorem mulS_sh (f g : S p) : mulS (sh f) g = sh (mulS f g) := by
  rw [mulS_split]
  have h1 : tl (sh f) = f := rfl
  have h2 : sh f 0 = 0 := rfl
  rw [h1, h2]
  apply S.ext; intro t; simp only [addS, smul]; grind
theorem mulS_mono (c : Fin p) (i : Nat) (g : S p) : mulS (mono c i) g = smul c (shN i g) := by
  induction i with
  | zero =>
    have : mono c 0 = C c := rfl
    rw [this, mulS_C]; apply S.ext; intro t; simp [smul, shN]
  | succ i ih =>
    have : mono c (i + 1) = sh (mono c i) := by
      apply S.ext; intro t
      cases t with
      | zero => simp [mono, sh]
      | succ t => simp [mono, sh]
    rw [this, mulS_sh, ih]
    apply S.ext; intro t
    cases t with
    | zero => simp only [sh, smul, shN]; rw [if_neg (by omega)]; grind
    | succ t =>
      simp only [sh, smul, shN]
      by_cases h : i ≤ t
      · rw [if_pos h, if_pos (by omega), show t + 1 - (i + 1) = t - i by omega]
      · rw [if_neg h, if_neg (by omega)]
theorem cf_take (a : List Nat) (i : Nat) (h : i < a.length) : cf p (a.take (i + 1)) = addS (cf p (a.take i)) (mono (F p (a.getD i 0)) i) := by
  apply S.ext; intro t
  rw [take_snoc a i h]
  have hl : (a.take i).length = i := by simp; omega
  simp only [cf, addS, mono, List.getD_eq_getElem?_getD]
  rcases Nat.lt_trichotomy t i with h1 | h1 | h1
  · rw [List.getElem?_append_left (by omega), if_neg (by omega)]; grind
  · subst h1
    rw [List.getElem?_append_right (by omega), hl, Nat.sub_self, if_pos rfl, List.getElem?_eq_none (l := a.take t) (by omega)]
    simp only [List.getElem?_cons_zero, Option.getD_some, Option.getD_none, F_zero]; grind
  · rw [List.getElem?_append_right (by omega), hl, if_neg (by omega), List.getElem?_eq_none (l := a.take i) (by omega), List.getElem?_eq_none (by simp; omega)]
    simp only [Option.getD_none, F_zero]; grind
theorem cf_trimP (hv : vld p = true) (l : List Nat) : cf p (trimP p l) = cf p l := by
  apply S.ext; intro t; unfold cf; rw [trimP_getD, F_fred hv]
theorem cf_trimZ (l : List Nat) : cf p (trimZ l) = cf p l := by
  apply S.ext; intro t; unfold cf; rw [trimZ_getD]
theorem cf_radd (hv : vld p = true) (a b : List Nat) : cf p (radd p a b) = addS (cf p a) (cf p b) := by
  apply S.ext; intro t; simp only [cf, addS]; rw [radd_getD, F_fadd hv]
theorem cf_rscale (hv : vld p = true) (a : List Nat) (n : Nat) : cf p (rscale p a n) = smul (F p n) (cf p a) := by
  apply S.ext; intro t; simp only [cf, smul]; rw [rscale_getD, F_fmul hv]; grind
theorem cf_shift (l : List Nat) (i : Nat) : cf p (shift l i) = shN i (cf p l) := by
  apply S.ext; intro t; simp only [cf, shN, shift, List.getD_eq_getElem?_getD]
  by_cases h : i ≤ t
  · rw [if_pos h, List.getElem?_append_right (by simpa using h)]; simp
  · rw [if_neg h, List.getElem?_append_left (by simp; omega), List.getElem?_replicate]
    rw [if_pos (by omega)]; exact F_zero
theorem cf_rmulK (hv : vld p = true) (a b : List Nat) : ∀ k, k ≤ a.length → cf p (rmulK p a b k) = mulS (cf p (a.take k)) (cf p b)
  | 0, _ => by rw [rmulK, List.take_zero, cf_nil, mulS_zeroS]
  | k + 1, h => by
    rw [rmulK, cf_radd hv, cf_rmulK hv a b k (by omega), cf_shift, cf_rscale hv, cf_take a k (by omega), mulS_add_l, mulS_mono]
    apply S.ext; intro t
    simp only [addS, smul, shN]
    split <;> grind
theorem cf_rmul (hv : vld p = true) (a b : List Nat) : cf p (rmul p a b) = mulS (cf p a) (cf p b) := by
  unfold rmul; rw [cf_rmulK hv a b a.length (Nat.le_refl _), List.take_length]
theorem Fs_mout (hv : vld p = true) (a b : List Nat) : ∀ i, i ≤ a.length → Fs (p := p) (mout p a b i) = mulS (cf p (a.take i)) (cf p b)
  | 0, _ => by
    rw [List.take_zero, cf_nil, mulS_zeroS]; apply S.ext; intro t; simp [Fs, mout, zeroS, F_zero]
  | i + 1, h => by
    rw [cf_take a i (by omega), mulS_add_l, ← Fs_mout hv a b i (by omega), mulS_mono]
    apply S.ext; intro t
    rw [mout]
    by_cases h0 : a.getD i 0 = 0
    · rw [if_pos h0, h0, F_zero]; simp only [addS, smul]; grind
    · rw [if_neg h0]
      simp only [Fs, addS, smul, shN, mrow, cf]
      by_cases h1 : i ≤ t ∧ t < i + b.length
      · rw [if_pos h1, if_pos h1.1, F_fadd hv, F_fmul hv]
      · rw [if_neg h1]
        by_cases h2 : i ≤ t
        · rw [if_pos h2]
          have : b.getD (t - i) 0 = 0 := by rw [List.getD_eq_getElem?_getD, List.getElem?_eq_none (by omega)]; rfl
          rw [this, F_zero]; grind
        · rw [if_neg h2]; grind
theorem mout_lt (hv : vld p = true) (a b : List Nat) : ∀ i t, mout p a b i t < p
  | 0, t => by have := vld_bd hv; simp [mout]; omega
  | i + 1, t => by
    rw [mout]; split
    · exact mout_lt hv a b i t
    · unfold mrow; split
      · exact fadd_lt hv
      · exact mout_lt hv a b i t
end
theorem red_getD {p : Nat} (hv : vld p = true) {l : List Nat} (h : ∀ x ∈ l, x < p) (t : Nat) : l.getD t 0 < p := by
  rw [List.getD_eq_getElem?_getD]
  cases hx : l[t]? with
  | none => have := vld_bd hv; simp; omega
  | some x => simp only [Option.getD_some]; exact h x (List.mem_of_getElem? hx)
theorem pmul_getD {p : Nat} [NeZero p] (hv : vld p = true) (a b : List Nat) (t : Nat) : F p ((pmul p a b).getD t 0) = mulS (cf p a) (cf p b) t ∧ (pmul p a b).getD t 0 < p := by
  have hpos : 0 < p := by have := vld_bd hv; omega
  rw [← cf_trimP hv a, ← cf_trimP hv b]
  unfold pmul
  split
  · rename_i h
    refine ⟨?_, by simpa using hpos⟩
    rcases h with h | h
    · have : trimP p a = [] := List.eq_nil_of_length_eq_zero h
      rw [this, cf_nil, mulS_zeroS]; simp [zeroS, F_zero]
    · have : trimP p b = [] := List.eq_nil_of_length_eq_zero h
      rw [this, cf_nil, mulS_comm, mulS_zeroS]; simp [zeroS, F_zero]
  · rename_i h
    rw [trimZ_getD, tab_getD]
    split
    · have := congrFun (Fs_mout hv (trimP p a) (trimP p b) (trimP p a).length (Nat.le_refl _)) t
      rw [List.take_length] at this
      exact ⟨this, mout_lt hv _ _ _ _⟩
    · refine ⟨?_, hpos⟩
      rw [(cf_deg (trimP p a)).mul (cf_deg (trimP p b)) t (by omega), F_zero]
theorem pmul_trim (p : Nat) (a b : List Nat) : trimZ (pmul p a b) = pmul p a b := by
  unfold pmul; split
  · rfl
  · exact trimZ_idem _
theorem rmul_trim (p : Nat) (a b : List Nat) : trimZ (rmul p a b) = rmul p a b := by
  unfold rmul
  cases a.length with
  | zero => rfl
  | succ k => exact trimP_trim _ _
theorem radd_lt' {p : Nat} (hv : vld p = true) (a b : List Nat) (t : Nat) : (radd p a b).getD t 0 < p := by rw [radd_getD]; exact fadd_lt hv
theorem rmul_lt {p : Nat} (hv : vld p = true) (a b : List Nat) (t : Nat) : (rmul p a b).getD t 0 < p := by
  unfold rmul
  cases a.length with
  | zero => have := vld_bd hv; simp [rmulK]; omega
  | succ k => rw [rmulK]; exact radd_lt' hv _ _ _
theorem inv_zero {p : Nat} (hv : vld p = false) (l : List Nat) : trimP p l = [] := by
  unfold trimP; rw [trimZ_nil_iff]; intro t
  rw [map_getD _ (fred_zero p)]; simp [fred, hv]
theorem rmul_inv {p : Nat} (hv : vld p = false) (a b : List Nat) : rmul p a b = [] := by
  unfold rmul
  cases a.length with
  | zero => rfl
  | succ k => exact inv_zero hv _
theorem pmul_inv {p : Nat} (hv : vld p = false) (a b : List Nat) : pmul p a b = [] := by
  unfold pmul; rw [if_pos (.inl (by rw [inv_zero hv]; rfl))]
theorem mul_same (p : Nat) (a b : List Nat) : pmul p a b = rmul p a b := by
  cases hv : vld p
  · rw [pmul_inv hv, rmul_inv hv]
  · haveI := nz_vld hv
    refine trimmed_ext (pmul_trim _ _ _) (rmul_trim _ _ _) fun t => ?_
    have h := pmul_getD hv a b t
    refine F_inj (p := p) h.2 (rmul_lt hv a b t) ?_
    rw [h.1, ← cf_rmul hv]; rfl
theorem mul_comm' (p : Nat) (a b : List Nat) : pmul p a b = pmul p b a := by
  cases hv : vld p
  · rw [pmul_inv hv, pmul_inv hv]
  · haveI := nz_vld hv
    refine trimmed_ext (pmul_trim _ _ _) (pmul_trim _ _ _) fun t => ?_
    have h := pmul_getD hv a b t
    have k := pmul_getD hv b a t
    refine F_inj (p := p) h.2 k.2 ?_
    rw [h.1, k.1, mulS_comm]
theorem trimZ_full {l : List Nat} (h : l.getD (l.length - 1) 0 ≠ 0) : trimZ l = l := by
  have hl : 0 < l.length := by
    rcases Nat.eq_zero_or_pos l.length with h0 | h0
    · rw [List.eq_nil_of_length_eq_zero h0] at h; simp at h
    · exact h0
  have := take_snoc l (l.length - 1) (by omega)
  rw [show l.length - 1 + 1 = l.length by omega, List.take_length] at this
  rw [this]; exact trimZ_snoc _ _ h
theorem trimZ_last {l : List Nat} (h : trimZ l = l) (hl : 0 < l.length) : l.getD (l.length - 1) 0 ≠ 0 := by
  intro h0
  have := take_snoc l (l.length - 1) (by omega)
  rw [show l.length - 1 + 1 = l.length by omega, List.take_length, h0] at this
  have h1 : trimZ l = trimZ (l.take (l.length - 1)) := by conv => lhs; rw [this]; 
                                                          rw [trimZ_snoc0]
  have h2 := trimZ_le (l.take (l.length - 1))
  rw [← h1, h] at h2; simp at h2; omega
theorem trimP_red {p : Nat} (hv : vld p = true) (l : List Nat) (t : Nat) : (trimP p l).getD t 0 < p := by rw [trimP_getD]; exact fred_lt hv
theorem red_ne {p : Nat} [NeZero p] {a : Nat} (h : a < p) (h0 : a ≠ 0) : F p a ≠ 0 := by
  rw [Ne, F_eq_zero, Nat.mod_eq_of_lt h]; exact h0
theorem trimP_red_id {p : Nat} (hv : vld p = true) {l : List Nat} (ht : trimZ l = l) (hr : ∀ t, l.getD t 0 < p) : trimP p l = l := by
  refine trimmed_ext (trimP_trim _ _) ht fun t => ?_
  rw [trimP_getD]; unfold fred; rw [if_pos hv, Nat.mod_eq_of_lt (hr t)]
theorem mul_deg {p : Nat} (hv : vld p = true) (a b : List Nat) (ha : 0 < (trimP p a).length) (hb : 0 < (trimP p b).length) :
    (trimP p (pmul p a b)).length + 1 = (trimP p a).length + (trimP p b).length := by
  haveI := nz_vld hv
  rw [trimP_red_id hv (pmul_trim p a b) (fun t => (pmul_getD hv a b t).2)]
  have hn : (tab ((trimP p a).length + (trimP p b).length - 1) (mout p (trimP p a) (trimP p b) (trimP p a).length)).length = (trimP p a).length + (trimP p b).length - 1 := tab_len _ _
  have htop : (pmul p a b).getD ((trimP p a).length + (trimP p b).length - 2) 0 ≠ 0 := by
    intro h0
    have h1 := (pmul_getD hv a b ((trimP p a).length + (trimP p b).length - 2)).1
    rw [h0, F_zero, ← cf_trimP hv a, ← cf_trimP hv b] at h1
    have h2 := mul_top (p := p) (f := cf p (trimP p a)) (g := cf p (trimP p b)) (m := (trimP p a).length - 1) (n := (trimP p b).length - 1) ((cf_deg _).mono (by omega)) ((cf_deg _).mono (by omega))
    rw [show (trimP p a).length - 1 + ((trimP p b).length - 1) = (trimP p a).length + (trimP p b).length - 2 by omega, ← h1] at h2
    rcases noZD hv h2.symm with h3 | h3
    · exact red_ne (trimP_red hv a _) (trimZ_last (trimP_trim p a) ha) h3
    · exact red_ne (trimP_red hv b _) (trimZ_last (trimP_trim p b) hb) h3
  unfold pmul at htop ⊢
  rw [if_neg (by omega)] at htop ⊢
  rw [trimZ_getD] at htop
  rw [trimZ_full (by rw [hn, show (trimP p a).length + (trimP p b).length - 1 - 1 = (trimP p a).length + (trimP p b).length - 2 by omega]; exact htop), hn]; omega
/-! ### values -/
section
variable {p : Nat} [NeZero p]
theorem F_horner (hv : vld p = true) (x : Nat) (l : List Nat) : F p (horner p x l) = ev l.length (cf p l) (F p x) := by
  induction l with
  | nil => exact F_zero
  | cons c l ih =>
    rw [horner, F_fadd hv, F_fmul hv, ih, List.length_cons, ev, cf_cons]
    have : cf p (c :: l) 0 = F p c := rfl
    rw [this]; grind
theorem ev_snoc (f : S p) (x : Fin p) : ∀ k, ev (k + 1) f x = ev k f x + f k * x ^ k := by
  intro k
  induction k generalizing f with
  | zero => simp only [ev]; grind
  | succ k ih => rw [ev, ih (tl f), ev]; simp only [tl]; grind
theorem F_pwK (hv : vld p = true) (x : Nat) : ∀ k, F p (pwK p x k) = (F p x) ^ k
  | 0 => by rw [pwK, F_one]; grind
  | k + 1 => by rw [pwK, F_fmul hv, F_pwK hv x k]; grind
theorem F_revK (hv : vld p = true) (x : Nat) (l : List Nat) : ∀ k, F p (revK p x l k) = ev k (cf p l) (F p x)
  | 0 => F_zero
  | k + 1 => by
    rw [revK, F_fadd hv, F_revK hv x l k, F_fmul hv, F_pwK hv, ev_snoc]; rfl
end
theorem horner_lt {p : Nat} (hv : vld p = true) (x : Nat) (l : List Nat) : horner p x l < p := by
  cases l with
  | nil => have := vld_bd hv; simp [horner]; omega
  | cons c l => exact fadd_lt hv
theorem revK_lt {p : Nat} (hv : vld p = true) (x : Nat) (l : List Nat) (k : Nat) : revK p x l k < p := by
  cases k with
  | zero => have := vld_bd hv; simp [revK]; omega
  | succ k => exact fadd_lt hv
theorem horner_inv {p : Nat} (hv : vld p = false) (x : Nat) (l : List Nat) : horner p x l = 0 := by
  cases l with
  | nil => rfl
  | cons c l => simp [horner, fadd, hv]
theorem revK_inv {p : Nat} (hv : vld p = false) (x : Nat) (l : List Nat) (k : Nat) : revK p x l k = 0 := by
  cases k with
  | zero => rfl
  | succ k => simp [revK, fadd, hv]
theorem eval_same (p x : Nat) (l : List Nat) : horner p x l = reval p x l := by
  cases hv : vld p
  · rw [horner_inv hv]; unfold reval; rw [revK_inv hv]
  · haveI := nz_vld hv
    refine F_inj (p := p) (horner_lt hv x l) (revK_lt hv x l _) ?_
    rw [F_horner hv]; unfold reval; rw [F_revK hv]
theorem eval_mul (p x : Nat) (a b : List Nat) : horner p x (pmul p a b) = fmul p (horner p x a) (horner p x b) := by
  cases hv : vld p
  · rw [horner_inv hv]; simp [fmul, hv]
  · haveI := nz_vld hv
    refine F_inj (p := p) (horner_lt hv x _) (fmul_lt hv) ?_
    rw [F_fmul hv, F_horner hv, F_horner hv, F_horner hv]
    have e : cf p (pmul p a b) = mulS (cf p a) (cf p b) := by apply S.ext; intro t; exact (pmul_getD hv a b t).1
    have h1 := ev_more (cf_deg (p := p) (pmul p a b)) (F p x) (max (pmul p a b).length (a.length + b.length)) (by omega)
    rw [← h1, e, ev_mul (cf_deg a) (cf_deg b) (F p x) _ (by omega)]
theorem eval_add (p x : Nat) (a b : List Nat) : horner p x (trimZ (addL p a b)) = fadd p (horner p x a) (horner p x b) := by
  cases hv : vld p
  · rw [horner_inv hv]; simp [fadd, hv]
  · haveI := nz_vld hv
    refine F_inj (p := p) (horner_lt hv x _) (fadd_lt hv) ?_
    rw [F_fadd hv, F_horner hv, F_horner hv, F_horner hv]
    have e : cf p (trimZ (addL p a b)) = addS (cf p a) (cf p b) := by rw [add_same, cf_radd hv]
    have h1 := ev_more (cf_deg (p := p) (trimZ (addL p a b))) (F p x) (max (trimZ (addL p a b)).length (max a.length b.length)) (by omega)
    rw [← h1, e, ev_add, ev_more (cf_deg a) (F p x) _ (by omega), ev_more (cf_deg b) (F p x) _ (by omega)]
end Go.Proofs.Ytcnbinjoeilfgaa.Q

/- Vanishing polynomials; division. -/
set_option linter.unusedSectionVars false
namespace Go.Proofs.Ytcnbinjoeilfgaa.Q
open Go.Proofs.Ytcnbinjoeilfgaa
section
variable {p : Nat} [NeZero p]
theorem DegLt.cf_len {l : List Nat} (_hv : vld p = true) (ht : trimZ l = l) (hr : ∀ t, l.getD t 0 < p) {n : Nat} (h : DegLt (cf p l) n) : l.length ≤ n := by
  rcases Nat.lt_or_ge n l.length with h1 | h1
  · exfalso
    have h2 := h (l.length - 1) (by omega)
    exact red_ne (hr _) (trimZ_last ht (by omega)) h2
  · exact h1
/-- The product of X - x for the first k points. -/
def vanS (xs : List Nat) : Nat → S p
  | 0 => C 1
  | k + 1 => mulS (lin (F p (xs.getD k 0))) (vanS xs k)
theorem C_deg (c : Fin p) : DegLt (C c) 1 := fun t ht => by simp only [C]; rw [if_neg (by omega)]
theorem vanS_deg (xs : List Nat) : ∀ k, DegLt (vanS (p := p) xs k) (k + 1)
  | 0 => C_deg 1
  | k + 1 => fun t ht => (lin_deg _).mul (vanS_deg xs k) t (by omega)
theorem vanS_top (xs : List Nat) : ∀ k, vanS (p := p) xs k k = 1
  | 0 => by simp [vanS, C]
  | k + 1 => by
    have h := mul_top (f := lin (F p (xs.getD k 0))) (g := vanS xs k) (m := 1) (n := k) (lin_deg _) (vanS_deg xs k)
    rw [Nat.add_comm 1 k] at h
    show mulS _ _ (k + 1) = 1
    rw [h, vanS_top xs k]
    have : lin (F p (xs.getD k 0)) 1 = 1 := by simp [lin]
    rw [this]; grind
theorem vanS_ev (xs : List Nat) (x : Fin p) : ∀ k s, k + 1 ≤ s → (ev s (vanS xs k) x = 0 ↔ ∃ j, j < k ∧ x = F p (xs.getD j 0)) ∨ vld p = false
  | 0, s, hs => by
    cases hv : vld p
    · exact .inr rfl
    · left
      have h1 := ev_more (C_deg (p := p) 1) x s (by omega)
      show ev s (C 1) x = 0 ↔ _
      rw [h1]
      have h2 : ev 1 (C (p := p) 1) x = 1 := by simp only [ev, C]; simp; grind
      rw [h2]
      constructor
      · intro h
        exfalso
        have hb := vld_bd hv
        have := congrArg Fin.val h
        rw [← F_one, F_val, Nat.mod_eq_of_lt (by omega)] at this
        simp at this
      · rintro ⟨j, hj, _⟩; omega
  | k + 1, s, hs => by
    cases hv : vld p
    · exact .inr rfl
    · left
      have h1 := ev_mul (lin_deg (F p (xs.getD k 0))) (vanS_deg xs k) x (k + 3) (by omega)
      have hm := vanS_deg (p := p) xs (k + 1)
      rw [ev_more hm x s (by omega), ← ev_more hm x (k + 3) (by omega)]
      show ev (k + 3) (mulS _ _) x = 0 ↔ _
      rw [h1, lin_ev]
      have ih := (vanS_ev xs x k (k + 1) (Nat.le_refl _)).resolve_right (by rw [hv]; simp)
      constructor
      · intro h
        rcases noZD hv h with h2 | h2
        · exact ⟨k, by omega, by grind⟩
        · obtain ⟨j, hj, he⟩ := ih.1 h2
          exact ⟨j, by omega, he⟩
      · rintro ⟨j, hj, he⟩
        rcases Nat.lt_or_ge j k with h2 | h2
        · rw [ih.2 ⟨j, h2, he⟩]; grind
        · obtain rfl : j = k := by omega
          rw [he]; grind
theorem cf_pvanK (hv : vld p = true) (xs : List Nat) : ∀ k, cf p (pvanK p xs k) = vanS xs k
  | 0 => by
    apply S.ext; intro t
    cases t with
    | zero => exact F_one
    | succ t => simp [pvanK, vanS, cf, C, F_zero]
  | k + 1 => by
    show _ = mulS _ _
    rw [← cf_pvanK hv xs k, lin_mul]
    apply S.ext; intro t
    simp only [cf, pvanK, vstep, tab_getD, subS, smul]
    have hbig : ∀ u, (pvanK p xs k).length ≤ u → (pvanK p xs k).getD u 0 = 0 := fun u hu => by rw [List.getD_eq_getElem?_getD, List.getElem?_eq_none hu]; rfl
    cases t with
    | zero =>
      rw [if_pos (by omega), if_pos rfl, F_fneg hv, F_fmul hv]; simp only [sh]; grind
    | succ t =>
      simp only [sh, cf]
      by_cases h : t + 1 < (pvanK p xs k).length + 1
      · rw [if_pos h, if_neg (by omega), F_fsub hv, F_fmul hv, Nat.add_sub_cancel]; grind
      · rw [if_neg h, hbig t (by omega), hbig (t + 1) (by omega), F_zero]; grind
end
def rvanK (p : Nat) (xs : List Nat) : Nat → List Nat
  | 0 => trimP p [1]
  | k + 1 => rmul p [fneg p (xs.getD k 0), fred p 1] (rvanK p xs k)
def rvan (p : Nat) (xs : List Nat) : List Nat := rvanK p xs xs.length
theorem rvanK_le (p : Nat) (xs : List Nat) : ∀ k, (rvanK p xs k).length ≤ 2 * k + 1
  | 0 => Nat.le_trans (trimP_le _ _) (by simp)
  | k + 1 => by
    have h := rmul_le p [fneg p (xs.getD k 0), fred p 1] (rvanK p xs k)
    have := rvanK_le p xs k
    have h2 : [fneg p (xs.getD k 0), fred p 1].length = 2 := rfl
    rw [h2] at h
    rw [rvanK]; omega
theorem vstep_lt {p : Nat} (hv : vld p = true) (V : List Nat) (x t : Nat) : (vstep p V x).getD t 0 < p := by
  unfold vstep; rw [tab_getD]; split
  · split
    · exact fneg_lt hv
    · exact fsub_lt hv
  · have := vld_bd hv; omega
theorem pvanK_lt {p : Nat} (hv : vld p = true) (xs : List Nat) (k t : Nat) : (pvanK p xs k).getD t 0 < p := by
  have := vld_bd hv
  cases k with
  | zero => cases t <;> simp [pvanK] <;> omega
  | succ k => exact vstep_lt hv _ _ _
theorem cf_rvanK {p : Nat} [NeZero p] (hv : vld p = true) (xs : List Nat) : ∀ k, cf p (rvanK p xs k) = vanS xs k
  | 0 => by
    rw [rvanK, cf_trimP hv]; apply S.ext; intro t
    cases t with
    | zero => exact F_one
    | succ t => simp [vanS, cf, C, F_zero]
  | k + 1 => by
    show _ = mulS _ _
    rw [rvanK, cf_rmul hv, cf_rvanK hv xs k]
    congr 1
    apply S.ext; intro t
    match t with
    | 0 => simp only [cf, lin]; simp [F_fneg hv]
    | 1 => simp only [cf, lin]; simp [F_fred hv, F_one]
    | t + 2 => simp [cf, lin, F_zero]
theorem rvanK_trim (p : Nat) (xs : List Nat) (k : Nat) : trimZ (rvanK p xs k) = rvanK p xs k := by
  cases k with
  | zero => exact trimP_trim _ _
  | succ k => exact rmul_trim _ _ _
theorem rvanK_lt {p : Nat} (hv : vld p = true) (xs : List Nat) (k t : Nat) : (rvanK p xs k).getD t 0 < p := by
  cases k with
  | zero => exact trimP_red hv _ _
  | succ k => exact rmul_lt hv _ _ _
theorem pvanK_trim {p : Nat} (hv : vld p = true) (xs : List Nat) (k : Nat) : trimZ (pvanK p xs k) = pvanK p xs k := by
  haveI := nz_vld hv
  apply trimZ_full
  rw [pvanK_len, Nat.add_sub_cancel]
  intro h
  have h1 := congrFun (cf_pvanK hv xs k) k
  rw [vanS_top] at h1
  simp only [cf] at h1
  rw [h, F_zero, ← F_one] at h1
  have hb := vld_bd hv
  have := congrArg Fin.val h1
  rw [F_val, Nat.mod_eq_of_lt (by omega)] at this
  simp at this
theorem van_same (p : Nat) (xs : List Nat) : (if vld p then pvan p xs else []) = rvan p xs := by
  cases hv : vld p
  · simp only [Bool.false_eq_true, if_false]
    unfold rvan
    cases xs.length with
    | zero => exact (inv_zero hv _).symm
    | succ k => exact (rmul_inv hv _ _).symm
  · simp only [if_true]
    haveI := nz_vld hv
    refine trimmed_ext (pvanK_trim hv xs _) (rvanK_trim _ _ _) fun t => ?_
    refine F_inj (p := p) (pvanK_lt hv xs _ t) (rvanK_lt hv xs _ t) ?_
    exact congrFun ((cf_pvanK hv xs xs.length).trans (cf_rvanK hv xs xs.length).symm) t
/-- The value of the vanishing polynomial. -/
theorem van_zero {p : Nat} (hv : vld p = true) (xs : List Nat) (x : Nat) : horner p x (pvan p xs) = 0 ↔ ∃ j, j < xs.length ∧ fsub p x (xs.getD j 0) = 0 := by
  haveI := nz_vld hv
  have h1 : horner p x (pvan p xs) = 0 ↔ F p (horner p x (pvan p xs)) = 0 := by
    constructor
    · intro h; rw [h, F_zero]
    · intro h; exact F_inj (p := p) (horner_lt hv _ _) (by have := vld_bd hv; omega) (by rw [h, F_zero])
  rw [h1, F_horner hv]
  unfold pvan
  rw [cf_pvanK hv, pvanK_len]
  have h2 := (vanS_ev (p := p) xs (F p x) xs.length (xs.length + 1) (Nat.le_refl _)).resolve_right (by rw [hv]; simp)
  rw [h2]
  constructor
  · rintro ⟨j, hj, he⟩
    refine ⟨j, hj, F_inj (p := p) (fsub_lt hv) (by have := vld_bd hv; omega) ?_⟩
    rw [F_fsub hv, he, F_zero]; grind
  · rintro ⟨j, hj, he⟩
    refine ⟨j, hj, ?_⟩
    have := F_fsub hv x (xs.getD j 0)
    rw [he, F_zero] at this; grind

/-! ### division -/
section
variable {p : Nat} [NeZero p]
/-- Division by a polynomial whose leading coefficient is not zero is unique. -/
theorem div_unique (hv : vld p = true) {b q r q' r' : S p} {m n : Nat} (hb : DegLt b (m + 1)) (hl : b m ≠ 0) (hq : DegLt q n) (hq' : DegLt q' n) (hr : DegLt r m) (hr' : DegLt r' m)
    (h : addS (mulS q b) r = addS (mulS q' b) r') : q = q' ∧ r = r' := by
  have key : ∀ k, ∀ d : S p, DegLt d k → DegLt (mulS d b) m → d = zeroS := by
    intro k
    induction k with
    | zero => intro d hd _; exact deg_zero hd
    | succ k ih =>
      intro d hd hm
      have htop := mul_top hd hb
      rw [hm (k + m) (by omega)] at htop
      have h0 : d k = 0 := by
        rcases noZD hv htop.symm with h1 | h1
        · exact h1
        · exact absurd h1 hl
      refine ih d (fun t ht => ?_) hm
      rcases Nat.lt_or_ge k t with h1 | h1
      · exact hd t (by omega)
      · obtain rfl : t = k := by omega
        exact h0
  have hsub : mulS (subS q q') b = subS r' r := by
    rw [mulS_sub_l]; apply S.ext; intro t
    have := congrFun h t
    simp only [addS, subS] at this ⊢; grind
  have hz := key n (subS q q') (hq.sub hq') (by rw [hsub]; exact hr'.sub hr)
  have hqq : q = q' := by
    apply S.ext; intro t
    have := congrFun hz t
    simp only [subS, zeroS] at this; grind
  refine ⟨hqq, ?_⟩
  subst hqq
  apply S.ext; intro t
  have := congrFun h t
  simp only [addS] at this; grind
theorem Fs_drow (hv : vld p = true) (R : Nat → Nat) (i fac : Nat) (b : List Nat) : Fs (p := p) (drow p R i fac b b.length) = subS (Fs R) (mulS (mono (F p fac) i) (cf p b)) := by
  rw [mulS_mono]; apply S.ext; intro t
  simp only [Fs, drow, subS, smul, shN, cf]
  by_cases h1 : i ≤ t ∧ t < i + b.length
  · rw [if_pos h1, if_pos h1.1, F_fsub hv, F_fmul hv]
  · rw [if_neg h1]
    by_cases h2 : i ≤ t
    · rw [if_pos h2]
      have : b.getD (t - i) 0 = 0 := by rw [List.getD_eq_getElem?_getD, List.getElem?_eq_none (by omega)]; rfl
      rw [this, F_zero]; grind
    · rw [if_neg h2]; grind
theorem Fs_dR_step (hv : vld p = true) (a b : List Nat) (n inv j : Nat) (h : j < n) : Fs (p := p) (dR p a b n inv (n - j)) = subS (Fs (dR p a b n inv (n - (j + 1)))) (mulS (mono (F p (dfac p a b n inv j)) j) (cf p b)) := by
  rw [dR_step p a b n inv j h]
  split
  · rename_i h0
    rw [h0, F_zero, mulS_mono]; apply S.ext; intro t; simp only [subS, smul]; grind
  · exact Fs_drow hv _ _ _ _
theorem Fs_dQ_step (a b : List Nat) (n inv j : Nat) : Fs (p := p) (dQ p a b n inv j) = addS (Fs (dQ p a b n inv (j + 1))) (mono (F p (dfac p a b n inv j)) j) := by
  apply S.ext; intro t
  simp only [Fs, dQ, addS, mono]
  rcases Nat.lt_trichotomy t j with h | h | h
  · rw [if_neg (by omega), if_neg (by omega), if_neg (by omega), F_zero]; grind
  · subst h; rw [if_pos (Nat.le_refl _), if_neg (by omega), if_pos rfl, F_zero]; grind
  · rw [if_pos (by omega), if_pos (by omega), if_neg (by omega)]; grind
/-- The division's invariant, from the top down to k. -/
theorem dinv (hv : vld p = true) (a b : List Nat) (n : Nat) (hb : 0 < b.length) (hn : n + b.length = a.length + 1) (hlead : F p (b.getD (b.length - 1) 0) ≠ 0) :
    ∀ c k, c + k = n → (addS (mulS (Fs (fun t => if t < n then dQ p a b n (finv p (b.getD (b.length - 1) 0)) k t else 0)) (cf p b)) (Fs (dR p a b n (finv p (b.getD (b.length - 1) 0)) c)) = cf p a) ∧ DegLt (Fs (p := p) (dR p a b n (finv p (b.getD (b.length - 1) 0)) c)) (k + b.length - 1) := by
  generalize hinv : finv p (b.getD (b.length - 1) 0) = inv
  have hli := F_finv hv hlead
  rw [hinv] at hli
  intro c
  induction c with
  | zero =>
    intro k hk
    obtain rfl : k = n := by omega
    have e : Fs (p := p) (fun t => if t < k then dQ p a b k inv k t else 0) = zeroS := by
      apply S.ext; intro t; simp only [Fs, zeroS, dQ]
      by_cases h : t < k
      · rw [if_pos h, if_neg (by omega), F_zero]
      · rw [if_neg h, F_zero]
    rw [e, mulS_zeroS]
    have e2 : Fs (p := p) (dR p a b k inv 0) = cf p a := rfl
    refine ⟨?_, ?_⟩
    · rw [e2]; apply S.ext; intro t; simp only [addS, zeroS]; grind
    · rw [e2]; exact (cf_deg a).mono (by omega)
  | succ c ih =>
    intro j hj
    have hjn : j < n := by omega
    obtain ⟨ih1, ih2⟩ := ih (j + 1) (by omega)
    have ec : c + 1 = n - j := by omega
    have ec' : c = n - (j + 1) := by omega
    have hR := Fs_dR_step hv a b n inv j hjn
    rw [← ec, ← ec'] at hR
    have hQ : Fs (p := p) (fun t => if t < n then dQ p a b n inv j t else 0) = addS (Fs (fun t => if t < n then dQ p a b n inv (j + 1) t else 0)) (mono (F p (dfac p a b n inv j)) j) := by
      apply S.ext; intro t
      have := congrFun (Fs_dQ_step (p := p) a b n inv j) t
      simp only [Fs, addS] at this ⊢
      by_cases h : t < n
      · rw [if_pos h, if_pos h]; exact this
      · rw [if_neg h, if_neg h, F_zero]; simp only [mono]; rw [if_neg (by omega)]; grind
    refine ⟨?_, ?_⟩
    · rw [hQ, hR, mulS_add_l, ← ih1]; apply S.ext; intro t; simp only [addS, subS]; grind
    · intro t ht
      rw [hR, mulS_mono]
      simp only [subS, smul, shN]
      rw [if_pos (by omega)]
      rcases Nat.lt_or_ge (j + b.length - 1) t with h1 | h1
      · rw [ih2 t (by omega), cf_deg b (t - j) (by omega)]; grind
      · obtain rfl : t = j + b.length - 1 := by omega
        have hf : F p (dfac p a b n inv j) = F p (dR p a b n inv c (j + b.length - 1)) * F p inv := by
          unfold dfac; rw [F_fmul hv, show n - 1 - j = c by omega]
        rw [hf]
        have hb2 : cf p b (j + b.length - 1 - j) = F p (b.getD (b.length - 1) 0) := by
          unfold cf; rw [show j + b.length - 1 - j = b.length - 1 by omega]
        rw [hb2]
        simp only [Fs]; grind
end
end Go.Proofs.Ytcnbinjoeilfgaa.Q

/- Division of lists: what both divisions return; Euclid's algorithm. -/
set_option linter.unusedSectionVars false
namespace Go.Proofs.Ytcnbinjoeilfgaa.Q
open Go.Proofs.Ytcnbinjoeilfgaa
/-- The normal form. -/
def Nf (p : Nat) (l : List Nat) : Prop := trimZ l = l ∧ ∀ t, l.getD t 0 < p
theorem Nf.trim {p : Nat} (hv : vld p = true) (l : List Nat) : Nf p (trimP p l) := ⟨trimP_trim _ _, trimP_red hv l⟩
theorem Nf.id {p : Nat} {l : List Nat} (hv : vld p = true) (h : Nf p l) : trimP p l = l := trimP_red_id hv h.1 h.2
theorem Nf.nil {p : Nat} (hv : vld p = true) : Nf p [] := ⟨rfl, fun t => by have := vld_bd hv; simp; omega⟩
theorem Nf.mul {p : Nat} (hv : vld p = true) (a b : List Nat) : Nf p (rmul p a b) := ⟨rmul_trim _ _ _, rmul_lt hv _ _⟩
theorem Nf.add {p : Nat} (hv : vld p = true) (a b : List Nat) : Nf p (radd p a b) := ⟨trimP_trim _ _, radd_lt' hv _ _⟩
theorem Nf.sub {p : Nat} (hv : vld p = true) (a b : List Nat) : Nf p (rsub p a b) := Nf.add hv _ _
theorem Nf.scale {p : Nat} (hv : vld p = true) (a : List Nat) (n : Nat) : Nf p (rscale p a n) := ⟨trimP_trim _ _, trimP_red hv _⟩
section
variable {p : Nat} [NeZero p]
theorem Nf.ext {l m : List Nat} (h : Nf p l) (k : Nf p m) (e : cf p l = cf p m) : l = m := trimmed_ext h.1 k.1 fun t => F_inj (h.2 t) (k.2 t) (congrFun e t)
theorem Nf.len {l : List Nat} (hv : vld p = true) (h : Nf p l) {n : Nat} (d : DegLt (cf p l) n) : l.length ≤ n := DegLt.cf_len hv h.1 h.2 d
theorem Nf.lead {l : List Nat} (h : Nf p l) (hl : 0 < l.length) : cf p l (l.length - 1) ≠ 0 := red_ne (h.2 _) (trimZ_last h.1 hl)
theorem cf_tab (n : Nat) (R : Nat → Nat) : cf p (tab n R) = Fs (fun t => if t < n then R t else 0) := by
  apply S.ext; intro t; simp only [cf, Fs, tab_getD]
theorem cf_tab_deg (n : Nat) (R : Nat → Nat) (h : DegLt (Fs (p := p) R) n) : cf p (tab n R) = Fs R := by
  rw [cf_tab]; apply S.ext; intro t; simp only [Fs]
  by_cases ht : t < n
  · rw [if_pos ht]
  · rw [if_neg ht, F_zero]; exact (h t (by omega)).symm
theorem cf_rsub (hv : vld p = true) (a b : List Nat) : cf p (rsub p a b) = subS (cf p a) (cf p b) := by
  rw [← sub_same, cf_trimZ]; apply S.ext; intro t; simp only [cf, subS]; rw [subL_getD, F_fsub hv]
theorem cf_mono (c n : Nat) : cf p (shift [c] n) = mono (F p c) n := by
  rw [cf_shift]; apply S.ext; intro t; simp only [shN, cf, mono]
  by_cases h : n ≤ t
  · rw [if_pos h]
    by_cases h2 : t = n
    · subst h2; simp
    · rw [if_neg h2]
      obtain ⟨u, hu⟩ : ∃ u, t - n = u + 1 := ⟨t - n - 1, by omega⟩
      rw [hu]; simp [F_zero]
  · rw [if_neg h, if_neg (by omega)]
end
/-- A = q B + r. -/
def DvI (p : Nat) (A B q r : List Nat) : Prop := Nf p q ∧ Nf p r ∧ q.length ≤ A.length ∧ r.length ≤ A.length ∧ ∀ [NeZero p], addS (mulS (cf p q) (cf p B)) (cf p r) = cf p A
theorem DvI.start {p : Nat} (hv : vld p = true) {A : List Nat} (B : List Nat) (hA : Nf p A) : DvI p A B [] A := by
  refine ⟨Nf.nil hv, hA, Nat.zero_le _, Nat.le_refl _, ?_⟩
  intro; rw [cf_nil, mulS_zeroS]; apply S.ext; intro t; simp only [addS, zeroS]; grind
theorem dR_lt {p : Nat} (hv : vld p = true) (a b : List Nat) (n inv : Nat) (ha : ∀ t, a.getD t 0 < p) : ∀ c t, dR p a b n inv c t < p
  | 0, t => ha t
  | c + 1, t => by
    rw [dR]
    split
    · exact dR_lt hv a b n inv ha c t
    · unfold drow; split
      · exact fsub_lt hv
      · exact dR_lt hv a b n inv ha c t
theorem quo_spec {p : Nat} (hv : vld p = true) (a b : List Nat) (hb : 0 < (trimP p b).length) :
    DvI p (trimP p a) (trimP p b) (pquo p a b) (prem p a b) ∧ (prem p a b).length < (trimP p b).length := by
  haveI := nz_vld hv
  have hA := Nf.trim hv a
  have hB := Nf.trim hv b
  by_cases h : (trimP p a).length < (trimP p b).length
  · unfold pquo prem; rw [if_pos h, if_pos h]
    exact ⟨DvI.start hv _ hA, h⟩
  · have hn : dvN p a b + (trimP p b).length = (trimP p a).length + 1 := by unfold dvN; omega
    have D := dinv hv (trimP p a) (trimP p b) (dvN p a b) hb hn (hB.lead hb) (dvN p a b) 0 (by omega)
    obtain ⟨d1, d2⟩ := D
    have e1 : finv p ((trimP p b).getD ((trimP p b).length - 1) 0) = dvI p b := rfl
    rw [e1] at d1 d2
    have q1 : pquo p a b = trimZ (tab (dvN p a b) (dQ p (trimP p a) (trimP p b) (dvN p a b) (dvI p b) 0)) := by unfold pquo; rw [if_neg h]
    have r1 : prem p a b = trimZ (tab (trimP p a).length (dR p (trimP p a) (trimP p b) (dvN p a b) (dvI p b) (dvN p a b))) := by unfold prem; rw [if_neg h]
    have hp := vld_bd hv
    have nq : Nf p (pquo p a b) := by
      rw [q1]; refine ⟨trimZ_idem _, fun t => ?_⟩
      rw [trimZ_getD, tab_getD]; split
      · unfold dQ; split
        · unfold dfac; exact fmul_lt hv
        · omega
      · omega
    have nr : Nf p (prem p a b) := by
      rw [r1]; refine ⟨trimZ_idem _, fun t => ?_⟩
      rw [trimZ_getD, tab_getD]; split
      · exact dR_lt hv _ _ _ _ hA.2 _ _
      · omega
    have cq : cf p (pquo p a b) = Fs (fun t => if t < dvN p a b then dQ p (trimP p a) (trimP p b) (dvN p a b) (dvI p b) 0 t else 0) := by rw [q1, cf_trimZ, cf_tab]
    have cr : cf p (prem p a b) = Fs (dR p (trimP p a) (trimP p b) (dvN p a b) (dvI p b) (dvN p a b)) := by
      rw [r1, cf_trimZ, cf_tab_deg _ _ (d2.mono (by omega))]
    have hr : (prem p a b).length ≤ 0 + (trimP p b).length - 1 := nr.len hv (by rw [cr]; exact d2)
    refine ⟨⟨nq, nr, ?_, by omega, ?_⟩, by omega⟩
    · rw [q1]; refine Nat.le_trans (trimZ_le _) ?_; rw [tab_len]; omega
    · intro; rw [cq, cr]; exact d1
theorem DvI.unique {p : Nat} (hv : vld p = true) {A B q r q' r' : List Nat} (hB : Nf p B) (hb : 0 < B.length) (h : DvI p A B q r) (h' : DvI p A B q' r') (hr : r.length < B.length) (hr' : r'.length < B.length) : q = q' ∧ r = r' := by
  haveI := nz_vld hv
  obtain ⟨a1, a2, a3, a4, a5⟩ := h
  obtain ⟨b1, b2, b3, b4, b5⟩ := h'
  have U := div_unique hv (b := cf p B) (q := cf p q) (r := cf p r) (q' := cf p q') (r' := cf p r') (m := B.length - 1) (n := A.length)
    ((cf_deg B).mono (by omega)) (hB.lead hb) ((cf_deg q).mono a3) ((cf_deg q').mono b3) ((cf_deg r).mono (by omega)) ((cf_deg r').mono (by omega)) (a5.trans b5.symm)
  exact ⟨a1.ext b1 U.1, a2.ext b2 U.2⟩
theorem DvI.step {p : Nat} (hv : vld p = true) {A B q r : List Nat} (hB : Nf p B) (hb : 0 < B.length) (h : DvI p A B q r) (hr : B.length ≤ r.length) (T : List Nat)
    (hT : T = shift [fmul p (r.getD (r.length - 1) 0) (finv p (B.getD (B.length - 1) 0))] (r.length - B.length)) :
    DvI p A B (radd p q T) (rsub p r (rmul p T B)) ∧ (rsub p r (rmul p T B)).length < r.length := by
  haveI := nz_vld hv
  obtain ⟨a1, a2, a3, a4, a5⟩ := h
  have hTl : T.length = r.length - B.length + 1 := by rw [hT]; simp [shift]
  have cT : cf p T = mono (F p (fmul p (r.getD (r.length - 1) 0) (finv p (B.getD (B.length - 1) 0)))) (r.length - B.length) := by rw [hT, cf_mono]
  have cr : cf p (rsub p r (rmul p T B)) = subS (cf p r) (mulS (cf p T) (cf p B)) := by rw [cf_rsub hv, cf_rmul hv]
  have hd : DegLt (cf p (rsub p r (rmul p T B))) (r.length - 1) := by
    intro t ht
    rw [cr, cT, mulS_mono]
    simp only [subS, smul, shN]
    rw [if_pos (by omega)]
    rcases Nat.lt_or_ge t r.length with h1 | h1
    · obtain rfl : t = r.length - 1 := by omega
      have e : r.length - 1 - (r.length - B.length) = B.length - 1 := by omega
      rw [e, F_fmul hv]
      have hi := F_finv hv (a := B.getD (B.length - 1) 0) (hB.lead hb)
      simp only [cf]; grind
    · rw [cf_deg r t h1, cf_deg B _ (by omega)]; grind
  have hl := (Nf.sub hv r (rmul p T B)).len hv hd
  refine ⟨⟨Nf.add hv _ _, Nf.sub hv _ _, ?_, by omega, ?_⟩, by omega⟩
  · refine Nat.le_trans (radd_le _ _ _) ?_; omega
  · intro; rw [cr, cf_radd hv, mulS_add_l, ← a5]; apply S.ext; intro t; simp only [addS, subS]; grind
theorem DvI.same {p : Nat} (hv : vld p = true) {a b q r : List Nat} (hb : 0 < (trimP p b).length) (h : DvI p (trimP p a) (trimP p b) q r) (hr : r.length < (trimP p b).length) : q = pquo p a b ∧ r = prem p a b := by
  obtain ⟨k, k2⟩ := quo_spec hv a b hb
  exact DvI.unique hv (Nf.trim hv b) hb h k hr k2
/-- The law's last part. -/
theorem div_back {p : Nat} (hv : vld p = true) (a b : List Nat) (hb : 0 < (trimP p b).length) : radd p (rmul p (pquo p a b) b) (prem p a b) = trimP p a := by
  haveI := nz_vld hv
  obtain ⟨⟨_, _, _, _, k⟩, _⟩ := quo_spec hv a b hb
  refine (Nf.add hv _ _).ext (Nf.trim hv a) ?_
  rw [cf_radd hv, cf_rmul hv, ← k, cf_trimP hv b]

/-! ### Euclid -/
def eg (p : Nat) : Nat → List Nat → List Nat → List Nat
  | 0, a, _ => a
  | k + 1, a, b => if b.length = 0 then a else eg p k b (prem p a b)
def pgcd (p : Nat) (a b : List Nat) : List Nat := eg p (trimP p b).length (trimP p a) (trimP p b)
def monic (p : Nat) (g : List Nat) : List Nat := if g.length = 0 then [] else rscale p g (finv p (g.getD (g.length - 1) 0))
theorem eg_nil (p : Nat) (k : Nat) (a : List Nat) : eg p k a [] = a := by cases k <;> simp [eg]
theorem prem_lt {p : Nat} (hv : vld p = true) {b : List Nat} (hB : Nf p b) (a : List Nat) (h0 : b.length ≠ 0) : (prem p a b).length < b.length := by
  have := (quo_spec hv a b (by rw [hB.id hv]; omega)).2
  rwa [hB.id hv] at this
theorem prem_nf {p : Nat} (hv : vld p = true) {b : List Nat} (hB : Nf p b) (a : List Nat) (h0 : b.length ≠ 0) : Nf p (prem p a b) :=
  (quo_spec hv a b (by rw [hB.id hv]; omega)).1.2.1
theorem eg_zero {p : Nat} (hv : vld p = true) : ∀ k (a b : List Nat), Nf p b → b.length ≤ k → eg p k a b = [] → a = [] ∧ b = []
  | 0, a, b, _, hk, h => ⟨h, List.eq_nil_of_length_eq_zero (by omega)⟩
  | k + 1, a, b, hB, hk, h => by
    rw [eg] at h
    split at h
    · rename_i h0; exact ⟨h, List.eq_nil_of_length_eq_zero h0⟩
    · rename_i h0
      have h1 := prem_lt hv hB a h0
      have := eg_zero hv k b (prem p a b) (prem_nf hv hB a h0) (by omega) h
      exact absurd (by rw [this.1]; rfl) h0
theorem eg_nf {p : Nat} (hv : vld p = true) : ∀ k (a b : List Nat), Nf p a → Nf p b → Nf p (eg p k a b)
  | 0, _, _, h, _ => h
  | k + 1, a, b, hA, hB => by
    rw [eg]; split
    · exact hA
    · rename_i h0; exact eg_nf hv k b _ hB (prem_nf hv hB a h0)
section
variable {p : Nat} [NeZero p]
def Dv (f g : S p) : Prop := ∃ s n, DegLt s n ∧ g = mulS s f
theorem Dv.refl (f : S p) : Dv f f := ⟨C 1, 1, C_deg 1, by rw [mulS_C]; apply S.ext; intro t; simp only [smul]; grind⟩
theorem Dv.zero (f : S p) : Dv f zeroS := ⟨zeroS, 0, fun _ _ => rfl, (mulS_zeroS f).symm⟩
theorem Dv.add {f g h : S p} (a : Dv f g) (b : Dv f h) : Dv f (addS g h) := by
  obtain ⟨s, n, hs, rfl⟩ := a
  obtain ⟨t, m, ht, rfl⟩ := b
  exact ⟨addS s t, max n m, (hs.mono (by omega)).add (ht.mono (by omega)), (mulS_add_l _ _ _).symm⟩
theorem Dv.sub {f g h : S p} (a : Dv f g) (b : Dv f h) : Dv f (subS g h) := by
  obtain ⟨s, n, hs, rfl⟩ := a
  obtain ⟨t, m, ht, rfl⟩ := b
  exact ⟨subS s t, max n m, (hs.mono (by omega)).sub (ht.mono (by omega)), (mulS_sub_l _ _ _).symm⟩
theorem Dv.mul {f g : S p} (a : Dv f g) {q : S p} {m : Nat} (hq : DegLt q m) : Dv f (mulS q g) := by
  obtain ⟨s, n, hs, rfl⟩ := a
  exact ⟨mulS q s, m + n, fun t ht => hq.mul hs t (by omega), (mulS_assoc _ _ _).symm⟩
theorem Dv.scale {f g : S p} (a : Dv f g) (c : Fin p) : Dv f (smul c g) := by
  rw [← mulS_C]; exact a.mul (C_deg c)
theorem Dv.unscale {f g : S p} (a : Dv f g) {c d : Fin p} (h : d * c = 1) : Dv (smul c f) g := by
  obtain ⟨s, n, hs, rfl⟩ := a
  refine ⟨smul d s, n, hs.smul d, ?_⟩
  rw [mulS_smul_l, mulS_smul_r]; apply S.ext; intro t; simp only [smul]
  have : ∀ z : Fin p, d * (c * z) = z := fun z => by grind
  rw [this]
theorem rem_nil (hv : vld p = true) {a b : List Nat} (hb : 0 < (trimP p b).length) (h : Dv (cf p b) (cf p a)) : prem p a b = [] := by
  obtain ⟨s, n, hs, e⟩ := h
  obtain ⟨⟨k1, k2, k3, k4, k5⟩, k6⟩ := quo_spec hv a b hb
  have hB := Nf.trim hv b
  have U := div_unique hv (b := cf p (trimP p b)) (q := cf p (pquo p a b)) (r := cf p (prem p a b)) (q' := s) (r' := zeroS) (m := (trimP p b).length - 1) (n := max n (pquo p a b).length)
    ((cf_deg _).mono (by omega)) (hB.lead hb) ((cf_deg _).mono (by omega)) (hs.mono (by omega)) ((cf_deg _).mono (by omega)) (fun _ _ => rfl)
    (by rw [k5, cf_trimP hv, cf_trimP hv, e]; apply S.ext; intro t; simp only [addS, zeroS]; grind)
  exact k2.ext (Nf.nil hv) (by rw [U.2, cf_nil])
theorem eg_dvd (hv : vld p = true) : ∀ k (a b : List Nat), Nf p b → b.length ≤ k → Dv (cf p (eg p k a b)) (cf p a) ∧ Dv (cf p (eg p k a b)) (cf p b)
  | 0, a, b, _, hk => by
    obtain rfl : b = [] := List.eq_nil_of_length_eq_zero (by omega)
    exact ⟨Dv.refl _, by rw [cf_nil]; exact Dv.zero _⟩
  | k + 1, a, b, hB, hk => by
    rw [eg]; split
    · rename_i h0
      obtain rfl : b = [] := List.eq_nil_of_length_eq_zero h0
      exact ⟨Dv.refl _, by rw [cf_nil]; exact Dv.zero _⟩
    · rename_i h0
      have h1 := prem_lt hv hB a h0
      obtain ⟨i1, i2⟩ := eg_dvd hv k b (prem p a b) (prem_nf hv hB a h0) (by omega)
      obtain ⟨⟨_, _, _, _, k5⟩, _⟩ := quo_spec hv a b (by rw [hB.id hv]; omega)
      refine ⟨?_, i1⟩
      rw [← cf_trimP hv a, ← k5, hB.id hv]
      exact (i1.mul (cf_deg _)).add i2
theorem eg_com (hv : vld p = true) (c : S p) : ∀ k (a b : List Nat), Nf p b → Dv c (cf p a) → Dv c (cf p b) → Dv c (cf p (eg p k a b))
  | 0, a, b, _, h, _ => h
  | k + 1, a, b, hB, h, h' => by
    rw [eg]; split
    · exact h
    · rename_i h0
      refine eg_com hv c k b (prem p a b) (prem_nf hv hB a h0) h' ?_
      obtain ⟨⟨_, _, _, _, k5⟩, _⟩ := quo_spec hv a b (by rw [hB.id hv]; omega)
      have k5 := @k5 inferInstance
      rw [hB.id hv, cf_trimP hv] at k5
      have : cf p (prem p a b) = subS (cf p a) (mulS (cf p (pquo p a b)) (cf p b)) := by
        rw [← k5]; apply S.ext; intro t; simp only [addS, subS]; grind
      rw [this]
      exact h.sub (h'.mul (cf_deg _))
end
theorem pgcd_nf {p : Nat} (hv : vld p = true) (a b : List Nat) : Nf p (pgcd p a b) := eg_nf hv _ _ _ (Nf.trim hv a) (Nf.trim hv b)
theorem monic_cf {p : Nat} [NeZero p] (hv : vld p = true) {g : List Nat} (hg : g.length ≠ 0) : cf p (monic p g) = smul (F p (finv p (g.getD (g.length - 1) 0))) (cf p g) := by
  unfold monic; rw [if_neg hg, cf_rscale hv]
theorem F_one_ne {p : Nat} [NeZero p] (hv : vld p = true) : (1 : Fin p) ≠ 0 := by
  rw [← F_one]
  have hp := vld_bd hv
  exact red_ne (by omega) (by omega)
theorem monic_nil {p : Nat} (hv : vld p = true) {g : List Nat} (hN : Nf p g) (h : monic p g = []) : g = [] := by
  haveI := nz_vld hv
  by_cases hg : g.length = 0
  · exact List.eq_nil_of_length_eq_zero hg
  · exfalso
    have e := congrFun (monic_cf hv hg) (g.length - 1)
    rw [h, cf_nil] at e
    have hi := F_finv hv (a := g.getD (g.length - 1) 0) (hN.lead (by omega))
    simp only [zeroS, smul, cf] at e
    exact F_one_ne (p := p) hv (by grind)
theorem gcd_inv {p : Nat} (hv : vld p = false) (a b : List Nat) : monic p (pgcd p a b) = [] := by
  unfold pgcd; rw [inv_zero hv, inv_zero hv]; rfl
theorem gcd_zero {p : Nat} (hv : vld p = true) {a b : List Nat} (h : monic p (pgcd p a b) = []) : trimP p a = [] ∧ trimP p b = [] :=
  eg_zero hv _ _ _ (Nf.trim hv b) (Nat.le_refl _) (monic_nil hv (pgcd_nf hv a b) h)
theorem monic_nf {p : Nat} (hv : vld p = true) (g : List Nat) : Nf p (monic p g) := by
  unfold monic; split
  · exact Nf.nil hv
  · exact Nf.scale hv _ _
theorem gcd_divides {p : Nat} (hv : vld p = true) {a b : List Nat} (h : (monic p (pgcd p a b)).length ≠ 0) : prem p a (monic p (pgcd p a b)) = [] ∧ prem p b (monic p (pgcd p a b)) = [] := by
  haveI := nz_vld hv
  have hg : (pgcd p a b).length ≠ 0 := by
    intro e; apply h; unfold monic; rw [if_pos e]; rfl
  have hM := monic_nf hv (pgcd p a b)
  have hl : 0 < (trimP p (monic p (pgcd p a b))).length := by rw [hM.id hv]; omega
  have hi := F_finv hv (a := (pgcd p a b).getD ((pgcd p a b).length - 1) 0) ((pgcd_nf hv a b).lead (by omega))
  obtain ⟨d1, d2⟩ := eg_dvd hv _ (trimP p a) (trimP p b) (Nf.trim hv b) (Nat.le_refl _)
  rw [cf_trimP hv] at d1
  rw [cf_trimP hv] at d2
  refine ⟨rem_nil hv hl ?_, rem_nil hv hl ?_⟩
  · rw [monic_cf hv hg]; exact d1.unscale hi
  · rw [monic_cf hv hg]; exact d2.unscale hi
theorem gcd_common {p : Nat} (hv : vld p = true) (l m c : List Nat) (hc : 0 < (trimP p c).length) (h : (monic p (pgcd p (rmul p l c) (rmul p m c))).length ≠ 0) : prem p (monic p (pgcd p (rmul p l c) (rmul p m c))) c = [] := by
  haveI := nz_vld hv
  have hg : (pgcd p (rmul p l c) (rmul p m c)).length ≠ 0 := by
    intro e; apply h; unfold monic; rw [if_pos e]; rfl
  refine rem_nil hv hc ?_
  rw [monic_cf hv hg]
  refine Dv.scale ?_ _
  refine eg_com hv (cf p c) _ _ _ (Nf.trim hv _) ?_ ?_
  · rw [cf_trimP hv, cf_rmul hv]; exact (Dv.refl _).mul (cf_deg _)
  · rw [cf_trimP hv, cf_rmul hv]; exact (Dv.refl _).mul (cf_deg _)
end Go.Proofs.Ytcnbinjoeilfgaa.Q

/- Interpolation: both sums are the same, their values, and the polynomial through given points is one alone. -/
set_option linter.unusedSectionVars false
namespace Go.Proofs.Ytcnbinjoeilfgaa.Q
open Go.Proofs.Ytcnbinjoeilfgaa
section
variable {p : Nat} [NeZero p]
/-- The product of X - x for the points of a list. -/
def prodL : List Nat → S p
  | [] => C 1
  | x :: l => mulS (lin (F p x)) (prodL l)
theorem mulS_one (f : S p) : mulS (C 1) f = f := by rw [mulS_C]; apply S.ext; intro t; simp only [smul]; grind
theorem prodL_app : ∀ l m : List Nat, prodL (p := p) (l ++ m) = mulS (prodL l) (prodL m)
  | [], m => by rw [List.nil_append, prodL, mulS_one]
  | x :: l, m => by rw [List.cons_append, prodL, prodL, prodL_app l m, mulS_assoc]
theorem prodL_deg : ∀ l : List Nat, DegLt (prodL (p := p) l) (l.length + 1)
  | [] => C_deg 1
  | x :: l => fun t ht => (lin_deg _).mul (prodL_deg l) t (by simp at ht; omega)
theorem vanS_prod (xs : List Nat) : ∀ k, k ≤ xs.length → vanS (p := p) xs k = prodL (xs.take k)
  | 0, _ => by simp [vanS, prodL]
  | k + 1, h => by
    rw [take_snoc xs k (by omega), prodL_app, vanS, vanS_prod xs k (by omega)]
    rw [mulS_comm (lin _)]
    congr 1
    show _ = mulS (lin _) (C 1)
    rw [mulS_comm, mulS_one]
theorem split_at (xs : List Nat) (i : Nat) (h : i < xs.length) : xs = xs.take i ++ xs.getD i 0 :: xs.drop (i + 1) := by
  rw [← drop_cons xs i h, List.take_append_drop]
/-- Synthetic division by X - x. -/
theorem syn (hv : vld p = true) (x : Nat) (V : List Nat) (h0 : horner p x V = 0) : mulS (lin (F p x)) (cf p (without p x V)) = cf p V := by
  rw [lin_mul]
  have hw : ∀ t, cf p (without p x V) t = F p (horner p x (V.drop (t + 1))) := by
    intro t
    simp only [cf, without, tab_getD, wq]
    by_cases h : t < V.length - 1
    · rw [if_pos h, if_pos (Nat.zero_le _)]
    · rw [if_neg h, List.drop_eq_nil_of_le (by omega)]; rfl
  have hs : ∀ t, F p (horner p x (V.drop t)) = cf p V t + F p (horner p x (V.drop (t + 1))) * F p x := by
    intro t
    by_cases h : t < V.length
    · rw [horner_drop p x V t h, F_fadd hv, F_fmul hv]; rfl
    · rw [List.drop_eq_nil_of_le (by omega), List.drop_eq_nil_of_le (by omega), cf_deg V t (by omega)]
      show F p 0 = 0 + F p 0 * F p x
      rw [F_zero]; grind
  apply S.ext; intro t
  cases t with
  | zero =>
    have := hs 0
    rw [List.drop_zero, h0, F_zero] at this
    simp only [subS, sh, smul, hw]; grind
  | succ t =>
    have := hs (t + 1)
    simp only [subS, sh, smul, hw]; grind
theorem lin_top (x : Fin p) : lin x 1 = 1 := by simp [lin]
/-- X - x can be cancelled. -/
theorem lin_cancel (hv : vld p = true) (x : Fin p) {f g : S p} {n : Nat} (hf : DegLt f n) (hg : DegLt g n) (h : mulS (lin x) f = mulS (lin x) g) : f = g := by
  have U := div_unique hv (b := lin x) (q := f) (r := zeroS) (q' := g) (r' := zeroS) (m := 1) (n := n) (lin_deg x) (by rw [lin_top]; exact F_one_ne hv) hf hg (fun _ _ => rfl) (fun _ _ => rfl) (by rw [mulS_comm f, mulS_comm g, h])
  exact U.1
theorem prodL_mid (xs : List Nat) (i : Nat) (h : i < xs.length) : prodL (p := p) xs = mulS (lin (F p (xs.getD i 0))) (prodL (xs.take i ++ xs.drop (i + 1))) := by
  conv => lhs; rw [split_at xs i h]
  rw [prodL_app, prodL, prodL_app, ← mulS_assoc, mulS_comm (prodL (xs.take i)), mulS_assoc]
theorem cf_van (hv : vld p = true) (xs : List Nat) : cf p (pvan p xs) = prodL xs := by
  unfold pvan; rw [cf_pvanK hv, vanS_prod _ _ (Nat.le_refl _), List.take_length]
theorem cf_rvan (hv : vld p = true) (xs : List Nat) : cf p (rvan p xs) = prodL xs := by
  unfold rvan; rw [cf_rvanK hv, vanS_prod _ _ (Nat.le_refl _), List.take_length]
theorem cf_without (hv : vld p = true) (xs : List Nat) (i : Nat) (h : i < xs.length) : cf p (without p (xs.getD i 0) (pvan p xs)) = prodL (xs.take i ++ xs.drop (i + 1)) := by
  have hz : horner p (xs.getD i 0) (pvan p xs) = 0 := (van_zero hv xs _).2 ⟨i, h, by
    refine F_inj (p := p) (fsub_lt hv) (by have := vld_bd hv; omega) ?_
    rw [F_fsub hv, F_zero]; grind⟩
  refine lin_cancel hv (F p (xs.getD i 0)) (n := xs.length) ?_ ?_ ?_
  · refine (cf_deg _).mono ?_; rw [without_len]; unfold pvan; rw [pvanK_len]; omega
  · refine (prodL_deg _).mono ?_; simp; omega
  · rw [syn hv _ _ hz, cf_van hv, prodL_mid xs i h]
end
/-- The points but the i-th. -/
def oth (xs : List Nat) (i : Nat) : List Nat := xs.take i ++ xs.drop (i + 1)
def rcoef (p : Nat) (xs ys : List Nat) (i : Nat) : Nat := fmul p (ys.getD i 0) (finv p (reval p (xs.getD i 0) (rvan p (oth xs i))))
def rintK (p : Nat) (xs ys : List Nat) : Nat → List Nat
  | 0 => []
  | i + 1 => radd p (rintK p xs ys i) (rscale p (rvan p (oth xs i)) (rcoef p xs ys i))
def rinter (p : Nat) (xs ys : List Nat) : List Nat := rintK p xs ys xs.length
theorem oth_len (xs : List Nat) (i : Nat) (h : i < xs.length) : (oth xs i).length = xs.length - 1 := by unfold oth; simp; omega
theorem rvan_le (p : Nat) (xs : List Nat) : (rvan p xs).length ≤ 2 * xs.length + 1 := rvanK_le p xs _
theorem rintK_le (p : Nat) (xs ys : List Nat) : ∀ k, k ≤ xs.length → (rintK p xs ys k).length ≤ 2 * xs.length
  | 0, _ => by simp [rintK]
  | k + 1, h => by
    rw [rintK]
    refine Nat.le_trans (radd_le _ _ _) ?_
    have h1 := rintK_le p xs ys k (by omega)
    have h2 := rscale_le p (rvan p (oth xs k)) (rcoef p xs ys k)
    have h3 := rvan_le p (oth xs k)
    rw [oth_len xs k (by omega)] at h3
    omega
section
variable {p : Nat} [NeZero p]
theorem rint_same (hv : vld p = true) (xs ys : List Nat) : ∀ k, k ≤ xs.length → Fs (p := p) (iout p xs ys k) = cf p (rintK p xs ys k)
  | 0, _ => by rw [rintK, cf_nil]; apply S.ext; intro t; exact F_zero
  | k + 1, h => by
    have ih := rint_same hv xs ys k (by omega)
    rw [rintK, cf_radd hv, cf_rscale hv, cf_rvan hv, ← ih]
    have hw := cf_without hv xs k (by omega)
    have hc : F p (fdiv p (ys.getD k 0) (horner p (xs.getD k 0) (without p (xs.getD k 0) (pvan p xs)))) = F p (rcoef p xs ys k) := by
      unfold rcoef fdiv
      congr 2
      congr 1
      rw [← eval_same]
      refine F_inj (p := p) (horner_lt hv _ _) (horner_lt hv _ _) ?_
      rw [F_horner hv, F_horner hv, hw, cf_rvan hv]
      have e1 := ev_more (p := p) (n := xs.length) (f := prodL (xs.take k ++ xs.drop (k + 1))) ((prodL_deg _).mono (by simp; omega)) (F p (xs.getD k 0))
      have hd1 : DegLt (prodL (p := p) (oth xs k)) (rvan p (oth xs k)).length := by rw [← cf_rvan hv]; exact cf_deg _
      have e2 := ev_more hd1 (F p (xs.getD k 0)) (max xs.length (rvan p (oth xs k)).length) (by omega)
      rw [without_len]; unfold pvan; rw [pvanK_len, Nat.add_sub_cancel, ← e2, ← e1 _ (Nat.le_max_left _ _)]
      rfl
    apply S.ext; intro t
    simp only [Fs, iout, irow, addS, smul]
    have hwt := congrFun hw t
    simp only [cf] at hwt
    by_cases h1 : t < (without p (xs.getD k 0) (pvan p xs)).length
    · rw [if_pos h1, F_fadd hv, F_fmul hv, hc, hwt]; rfl
    · rw [if_neg h1]
      have h0 : (without p (xs.getD k 0) (pvan p xs)).getD t 0 = 0 := by rw [List.getD_eq_getElem?_getD, List.getElem?_eq_none (by omega)]; rfl
      rw [h0, F_zero] at hwt
      have : prodL (p := p) (oth xs k) t = 0 := hwt.symm
      rw [this]; grind
end
theorem iout_lt {p : Nat} (hv : vld p = true) (xs ys : List Nat) : ∀ k t, iout p xs ys k t < p
  | 0, t => by have := vld_bd hv; simp only [iout]; omega
  | k + 1, t => by
    simp only [iout, irow]; split
    · exact fadd_lt hv
    · exact iout_lt hv xs ys k t
theorem iout_deg {p : Nat} (xs ys : List Nat) : ∀ k t, k ≤ xs.length → xs.length ≤ t → iout p xs ys k t = 0
  | 0, _, _, _ => rfl
  | k + 1, t, hk, h => by
    simp only [iout, irow]
    rw [if_neg (by rw [without_len]; unfold pvan; rw [pvanK_len]; omega)]
    exact iout_deg xs ys k t (by omega) h
theorem pinter_nf {p : Nat} (hv : vld p = true) (xs ys : List Nat) : Nf p (pinter p xs ys) := by
  refine ⟨trimZ_idem _, fun t => ?_⟩
  unfold pinter; rw [trimZ_getD, tab_getD]; split
  · exact iout_lt hv _ _ _ _
  · have := vld_bd hv; omega
theorem pinter_len (p : Nat) (xs ys : List Nat) : (pinter p xs ys).length ≤ xs.length := by
  unfold pinter; refine Nat.le_trans (trimZ_le _) ?_; rw [tab_len]; exact Nat.le_refl _
theorem rint_nf {p : Nat} (hv : vld p = true) (xs ys : List Nat) (k : Nat) : Nf p (rintK p xs ys k) := by
  cases k with
  | zero => exact Nf.nil hv
  | succ k => exact Nf.add hv _ _
theorem cf_pinter {p : Nat} [NeZero p] (xs ys : List Nat) : cf p (pinter p xs ys) = Fs (iout p xs ys xs.length) := by
  unfold pinter; rw [cf_trimZ, cf_tab_deg]
  intro t ht; simp only [Fs]; rw [iout_deg xs ys _ t (Nat.le_refl _) ht, F_zero]
theorem inter_same {p : Nat} (hv : vld p = true) (xs ys : List Nat) : pinter p xs ys = rinter p xs ys := by
  haveI := nz_vld hv
  refine (pinter_nf hv xs ys).ext (rint_nf hv xs ys _) ?_
  rw [cf_pinter, rint_same hv xs ys _ (Nat.le_refl _)]; rfl
/-- The points are different after reduction. -/
def Diff (p : Nat) (xs : List Nat) : Prop := ∀ i j, j < i → i < xs.length → fsub p (xs.getD i 0) (xs.getD j 0) ≠ 0
section
variable {p : Nat} [NeZero p]
theorem prodL_ev (hv : vld p = true) (x : Fin p) : ∀ (l : List Nat) s, l.length + 1 ≤ s → (ev s (prodL l) x = 0 ↔ ∃ y ∈ l, x = F p y)
  | [], s, hs => by
    have h1 := ev_more (C_deg (p := p) 1) x s (by simp at hs; omega)
    show ev s (C 1) x = 0 ↔ _
    rw [h1]
    have h2 : ev 1 (C (p := p) 1) x = 1 := by simp only [ev, C]; simp; grind
    rw [h2]
    constructor
    · intro h; exact absurd h (F_one_ne hv)
    · rintro ⟨y, hy, _⟩; simp at hy
  | y :: l, s, hs => by
    have hm := prodL_deg (p := p) (y :: l)
    rw [ev_more hm x s hs, ← ev_more hm x (l.length + 3) (by simp)]
    show ev (l.length + 3) (mulS _ _) x = 0 ↔ _
    rw [ev_mul (lin_deg (F p y)) (prodL_deg l) x (l.length + 3) (by omega), lin_ev]
    have ih := prodL_ev hv x l (l.length + 1) (Nat.le_refl _)
    constructor
    · intro h
      rcases noZD hv h with h2 | h2
      · exact ⟨y, by simp, by grind⟩
      · obtain ⟨z, hz, he⟩ := ih.1 h2
        exact ⟨z, by simp [hz], he⟩
    · rintro ⟨z, hz, he⟩
      rcases List.mem_cons.1 hz with h2 | h2
      · rw [he, h2]; grind
      · rw [ih.2 ⟨z, h2, he⟩]; grind
theorem Diff.ne (hv : vld p = true) {xs : List Nat} (h : Diff p xs) {i j : Nat} (hi : i < xs.length) (hj : j < xs.length) (hij : i ≠ j) : F p (xs.getD i 0) ≠ F p (xs.getD j 0) := by
  have key : ∀ i j, j < i → i < xs.length → F p (xs.getD i 0) ≠ F p (xs.getD j 0) := by
    intro i j h1 h2 e
    apply h i j h1 h2
    refine F_inj (p := p) (fsub_lt hv) (by have := vld_bd hv; omega) ?_
    rw [F_fsub hv, e, F_zero]; grind
  rcases Nat.lt_trichotomy i j with h1 | h1 | h1
  · exact fun e => key j i h1 hj e.symm
  · exact absurd h1 hij
  · exact key i j h1 hi
theorem oth_mem {xs : List Nat} {i j : Nat} (hi : i < xs.length) (hj : j < xs.length) (hij : i ≠ j) : xs.getD j 0 ∈ oth xs i := by
  unfold oth; rw [List.mem_append]
  have e : xs.getD j 0 = xs[j] := by rw [List.getD_eq_getElem?_getD, List.getElem?_eq_getElem hj]; rfl
  rw [e]
  rcases Nat.lt_or_ge j i with h | h
  · left; rw [List.mem_take_iff_getElem]; exact ⟨j, by omega, rfl⟩
  · right; rw [List.mem_drop_iff_getElem]; exact ⟨j - (i + 1), by omega, by congr 1; omega⟩
theorem oth_mem' {xs : List Nat} {i : Nat} {y : Nat} (hi : i < xs.length) (h : y ∈ oth xs i) : ∃ j, j < xs.length ∧ j ≠ i ∧ y = xs.getD j 0 := by
  unfold oth at h; rw [List.mem_append] at h
  rcases h with h | h
  · rw [List.mem_take_iff_getElem] at h
    obtain ⟨j, hj, e⟩ := h
    exact ⟨j, by omega, by omega, by rw [← e, List.getD_eq_getElem?_getD, List.getElem?_eq_getElem (by omega)]; rfl⟩
  · rw [List.mem_drop_iff_getElem] at h
    obtain ⟨j, hj, e⟩ := h
    exact ⟨i + 1 + j, by omega, by omega, by rw [← e, List.getD_eq_getElem?_getD, List.getElem?_eq_getElem (by omega)]; rfl⟩
/-- The value of the sum at a point. -/
theorem rint_ev (hv : vld p = true) {xs : List Nat} (ys : List Nat) (hd : Diff p xs) (j : Nat) (hj : j < xs.length) (s : Nat) (hs : xs.length ≤ s) :
    ∀ k, k ≤ xs.length → ev s (cf p (rintK p xs ys k)) (F p (xs.getD j 0)) = if j < k then F p (ys.getD j 0) else 0
  | 0, _ => by rw [rintK, cf_nil, ev_zeroS, if_neg (by omega)]
  | k + 1, hk => by
    rw [rintK, cf_radd hv, cf_rscale hv, cf_rvan hv, ev_add, ev_smul, rint_ev hv ys hd j hj s hs k (by omega)]
    have P := prodL_ev hv (F p (xs.getD j 0)) (oth xs k) s (by rw [oth_len xs k (by omega)]; omega)
    by_cases h1 : j = k
    · subst h1
      rw [if_neg (by omega), if_pos (by omega)]
      have hne : ev s (prodL (p := p) (oth xs j)) (F p (xs.getD j 0)) ≠ 0 := by
        intro h0
        obtain ⟨y, hy, e⟩ := P.1 h0
        obtain ⟨i, hi, hij, rfl⟩ := oth_mem' hj hy
        exact hd.ne hv hj hi (fun e => hij e.symm) e
      have hr : F p (reval p (xs.getD j 0) (rvan p (oth xs j))) = ev s (prodL (p := p) (oth xs j)) (F p (xs.getD j 0)) := by
        rw [← eval_same, F_horner hv, cf_rvan hv]
        have hd1 : DegLt (prodL (p := p) (oth xs j)) (rvan p (oth xs j)).length := by rw [← cf_rvan hv]; exact cf_deg _
        have hd2 : DegLt (prodL (p := p) (oth xs j)) s := (prodL_deg _).mono (by rw [oth_len xs j hj]; omega)
        rw [← ev_more hd1 _ (max s (rvan p (oth xs j)).length) (by omega), ev_more hd2 _ _ (Nat.le_max_left _ _)]
      have hi := F_finv hv (a := reval p (xs.getD j 0) (rvan p (oth xs j))) (by rw [hr]; exact hne)
      unfold rcoef; rw [F_fmul hv]
      rw [hr] at hi
      grind
    · rw [P.2 ⟨_, oth_mem (by omega) hj (fun e => h1 e.symm), rfl⟩]
      by_cases h2 : j < k
      · rw [if_pos h2, if_pos (by omega)]; grind
      · rw [if_neg h2, if_neg (by omega)]; grind
end
theorem inter_value {p : Nat} (hv : vld p = true) {xs : List Nat} (ys : List Nat) (hd : Diff p xs) (j : Nat) (hj : j < xs.length) : reval p (xs.getD j 0) (pinter p xs ys) = fred p (ys.getD j 0) := by
  haveI := nz_vld hv
  rw [← eval_same]
  refine F_inj (p := p) (horner_lt hv _ _) (fred_lt hv) ?_
  rw [F_horner hv, F_fred hv]
  have h1 := pinter_len p xs ys
  rw [← ev_more (cf_deg _) _ xs.length h1, inter_same hv]
  unfold rinter
  rw [rint_ev hv ys hd j hj xs.length (Nat.le_refl _) xs.length (Nat.le_refl _), if_pos hj]
section
variable {p : Nat} [NeZero p]
theorem root_factor (hv : vld p = true) (x : Nat) {f : S p} {n : Nat} (hf : DegLt f (n + 1)) (h : ev (n + 1) f (F p x) = 0) : ∃ q, DegLt q n ∧ f = mulS (lin (F p x)) q := by
  have e : cf p (tab (n + 1) (fun t => (f t).val)) = f := by
    rw [cf_tab_deg]
    · apply S.ext; intro t; exact F_of_val _
    · intro t ht; simp only [Fs]; rw [F_of_val]; exact hf t ht
  have h0 : horner p x (tab (n + 1) (fun t => (f t).val)) = 0 := by
    refine F_inj (p := p) (horner_lt hv _ _) (by have := vld_bd hv; omega) ?_
    rw [F_horner hv, tab_len, e, h, F_zero]
  refine ⟨cf p (without p x (tab (n + 1) (fun t => (f t).val))), ?_, ?_⟩
  · refine (cf_deg _).mono ?_; rw [without_len, tab_len]; omega
  · rw [syn hv x _ h0, e]
/-- As many different roots as coefficients: zero. -/
theorem roots (hv : vld p = true) : ∀ (l : List Nat) (f : S p), DegLt f l.length → (∀ y ∈ l, ev l.length f (F p y) = 0) → (l.Pairwise fun a b => F p a ≠ F p b) → f = zeroS
  | [], f, hf, _, _ => deg_zero hf
  | x :: l, f, hf, h, hp => by
    obtain ⟨q, hq, rfl⟩ := root_factor hv x hf (h x (by simp))
    rw [List.pairwise_cons] at hp
    have hz := roots hv l q hq (fun y hy => by
      have h1 := h y (by simp [hy])
      have e := ev_mul (lin_deg (F p x)) hq (F p y) (l.length + 2) (by omega)
      have e2 := ev_more hf (F p y) (l.length + 2) (by simp)
      rw [e2, h1, lin_ev] at e
      rcases noZD hv e.symm with h2 | h2
      · exact absurd (by grind) (hp.1 y hy)
      · exact h2) hp.2
    rw [hz, mulS_comm, mulS_zeroS]
theorem Diff.pairwise (hv : vld p = true) {xs : List Nat} (h : Diff p xs) : xs.Pairwise fun a b => F p a ≠ F p b := by
  rw [List.pairwise_iff_getElem]
  intro i j hi hj hij
  have := h.ne hv hi hj (by omega)
  rwa [List.getD_eq_getElem?_getD, List.getD_eq_getElem?_getD, List.getElem?_eq_getElem hi, List.getElem?_eq_getElem hj] at this
end
/-- The law of restoring. -/
theorem restores {p : Nat} (hv : vld p = true) (a xs : List Nat) (hd : Diff p xs) (hl : (trimP p a).length ≤ xs.length) : pinter p xs (xs.map fun x => horner p x a) = trimP p a := by
  haveI := nz_vld hv
  refine (pinter_nf hv _ _).ext (Nf.trim hv a) ?_
  have h1 := pinter_len p xs (xs.map fun x => horner p x a)
  have hz := roots hv xs (subS (cf p (pinter p xs (xs.map fun x => horner p x a))) (cf p (trimP p a))) (((cf_deg _).mono h1).sub ((cf_deg _).mono hl)) (fun y hy => by
    obtain ⟨j, hj, rfl⟩ := List.mem_iff_getElem.1 hy
    have ey : xs[j] = xs.getD j 0 := by rw [List.getD_eq_getElem?_getD, List.getElem?_eq_getElem hj]; rfl
    rw [ey, ev_sub, inter_same hv]
    unfold rinter
    rw [rint_ev hv _ hd j hj xs.length (Nat.le_refl _) xs.length (Nat.le_refl _), if_pos hj]
    have e3 : (xs.map fun x => horner p x a).getD j 0 = horner p (xs.getD j 0) a := by
      rw [List.getD_eq_getElem?_getD, List.getElem?_map, List.getElem?_eq_getElem hj, List.getD_eq_getElem?_getD, List.getElem?_eq_getElem hj]; rfl
    rw [e3, F_horner hv, ev_more (cf_deg (trimP p a)) _ xs.length hl, cf_trimP hv]
    have hdg : DegLt (cf p a) (trimP p a).length := by rw [← cf_trimP hv]; exact cf_deg _
    rw [ev_more hdg _ a.length (trimP_le _ _)]; grind) (hd.pairwise hv)
  apply S.ext; intro t
  have := congrFun hz t
  simp only [subS, zeroS] at this; grind
/-- The program's own test of difference. -/
theorem diff_nodup {p : Nat} (hv : vld p = true) (xs : List Nat) : Diff p xs ↔ (xs.map (fred p)).Nodup := by
  haveI := nz_vld hv
  have key : ∀ a b, fred p a = fred p b ↔ F p a = F p b := by
    intro a b; constructor
    · intro h; rw [← F_fred hv a, h, F_fred hv]
    · intro h; exact F_inj (p := p) (fred_lt hv) (fred_lt hv) (by rw [F_fred hv, F_fred hv, h])
  rw [List.nodup_iff_pairwise_ne, List.pairwise_map]
  constructor
  · intro h
    refine (h.pairwise hv).imp ?_
    intro a b hab e; exact hab ((key a b).1 e)
  · intro h i j hji hi e
    rw [List.pairwise_iff_getElem] at h
    have h2 := h j i (by omega) hi hji
    apply h2
    rw [key]
    have := F_fsub hv (xs.getD i 0) (xs.getD j 0)
    rw [e, F_zero, List.getD_eq_getElem?_getD, List.getD_eq_getElem?_getD, List.getElem?_eq_getElem hi, List.getElem?_eq_getElem (by omega : j < xs.length)] at this
    simp only [Option.getD_some] at this
    grind
end Go.Proofs.Ytcnbinjoeilfgaa.Q
