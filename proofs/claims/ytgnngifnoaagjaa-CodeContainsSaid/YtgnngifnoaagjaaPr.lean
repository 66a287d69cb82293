/- The seven primes. -/
import Derived.Test.YtgnngifnoaagjaaBase
namespace Go.Proofs.Ytgnngifnoaagjaa.Q
def Pr (p : Nat) : Prop := 2 ≤ p ∧ ∀ d, d ∣ p → d = 1 ∨ d = p
theorem Pr.euclid {p : Nat} (hp : Pr p) {a b : Nat} (h : p ∣ a * b) : p ∣ a ∨ p ∣ b := by
  rcases hp.2 (Nat.gcd p a) (Nat.gcd_dvd_left p a) with h1 | h1
  · exact .inr (Nat.Coprime.dvd_of_dvd_mul_left h1 h)
  · left; rw [← h1]; exact Nat.gcd_dvd_right p a
/-- Binomials. -/
def ch : Nat → Nat → Nat
  | _, 0 => 1
  | 0, _ + 1 => 0
  | n + 1, k + 1 => ch n k + ch n (k + 1)
theorem ch_zero (n : Nat) : ch n 0 = 1 := by cases n <;> rfl
theorem ch_gt : ∀ n k, n < k → ch n k = 0
  | 0, k + 1, _ => rfl
  | n + 1, k + 1, h => by rw [ch, ch_gt n k (by omega), ch_gt n (k + 1) (by omega)]
theorem ch_self : ∀ n, ch n n = 1
  | 0 => rfl
  | n + 1 => by rw [ch, ch_self n, ch_gt n (n + 1) (by omega)]
theorem ch_mul : ∀ n k, (k + 1) * ch (n + 1) (k + 1) = (n + 1) * ch n k
  | 0, 0 => rfl
  | 0, k + 1 => by simp [ch]
  | n + 1, 0 => by
    have := ch_mul n 0
    simp only [ch, ch_zero] at this ⊢; omega
  | n + 1, k + 1 => by
    have h1 := ch_mul n k
    have h2 := ch_mul n (k + 1)
    have e : ch (n + 1 + 1) (k + 1 + 1) = ch (n + 1) (k + 1) + ch (n + 1) (k + 1 + 1) := rfl
    have e2 : ch (n + 1) (k + 1) = ch n k + ch n (k + 1) := rfl
    rw [e]
    have h3 : (k + 1 + 1) * ch (n + 1) (k + 1) = (n + 1) * ch n k + ch (n + 1) (k + 1) := by rw [← h1]; grind
    rw [Nat.mul_add, h3, h2, e2]; grind
/-- Sums. -/
def sm : Nat → (Nat → Nat) → Nat
  | 0, _ => 0
  | n + 1, f => sm n f + f n
theorem sm_add (f g : Nat → Nat) : ∀ n, sm n (fun i => f i + g i) = sm n f + sm n g
  | 0 => rfl
  | n + 1 => by simp only [sm, sm_add f g n]; omega
theorem sm_mul (c : Nat) (f : Nat → Nat) : ∀ n, sm n (fun i => c * f i) = c * sm n f
  | 0 => by simp [sm]
  | n + 1 => by simp only [sm, sm_mul c f n, Nat.mul_add]
theorem sm_first (f : Nat → Nat) : ∀ n, sm (n + 1) f = f 0 + sm n (fun i => f (i + 1))
  | 0 => by simp [sm]
  | n + 1 => by rw [sm, sm_first f n, sm]; omega
theorem sm_congr {f g : Nat → Nat} : ∀ n, (∀ i, i < n → f i = g i) → sm n f = sm n g
  | 0, _ => rfl
  | n + 1, h => by rw [sm, sm, sm_congr n (fun i hi => h i (by omega)), h n (by omega)]
theorem sm_dvd {p : Nat} {f : Nat → Nat} : ∀ n, (∀ i, i < n → p ∣ f i) → p ∣ sm n f
  | 0, _ => by simp [sm]
  | n + 1, h => by rw [sm]; exact Nat.dvd_add (sm_dvd n (fun i hi => h i (by omega))) (h n (by omega))
theorem binom (a : Nat) : ∀ n, (a + 1) ^ n = sm (n + 1) (fun k => ch n k * a ^ k)
  | 0 => by simp [sm, ch]
  | n + 1 => by
    rw [Nat.pow_succ, binom a n, sm_first (fun k => ch (n + 1) k * a ^ k)]
    have e : sm (n + 1) (fun i => ch (n + 1) (i + 1) * a ^ (i + 1)) = sm (n + 1) (fun i => a * (ch n i * a ^ i)) + sm (n + 1) (fun i => ch n (i + 1) * a ^ (i + 1)) := by
      rw [← sm_add]; apply sm_congr; intro i _
      show (ch n i + ch n (i + 1)) * a ^ (i + 1) = _
      rw [Nat.pow_succ]; grind
    rw [e, sm_mul]
    have e2 : sm (n + 1) (fun i => ch n (i + 1) * a ^ (i + 1)) + 1 = sm (n + 1) (fun k => ch n k * a ^ k) := by
      have h1 := sm_first (fun k => ch n k * a ^ k) (n + 1)
      have h2 : sm (n + 1 + 1) (fun k => ch n k * a ^ k) = sm (n + 1) (fun k => ch n k * a ^ k) := by rw [sm, ch_gt n (n + 1) (by omega)]; simp
      rw [h2] at h1
      simp only [ch_zero, Nat.pow_zero, Nat.mul_one] at h1
      omega
    simp only [ch_zero, Nat.pow_zero, Nat.mul_one]
    generalize sm (n + 1) (fun k => ch n k * a ^ k) = s at *
    generalize sm (n + 1) (fun i => ch n (i + 1) * a ^ (i + 1)) = t at *
    rw [Nat.mul_add, Nat.mul_comm s a]; omega
theorem Pr.ch_dvd {p : Nat} (hp : Pr p) (k : Nat) (h0 : 0 < k) (hk : k < p) : p ∣ ch p k := by
  obtain ⟨k, rfl⟩ : ∃ j, k = j + 1 := ⟨k - 1, by omega⟩
  obtain ⟨n, rfl⟩ : ∃ m, p = m + 1 := ⟨p - 1, by have := hp.1; omega⟩
  have h := ch_mul n k
  have hd : (n + 1) ∣ (k + 1) * ch (n + 1) (k + 1) := by rw [h]; exact Nat.dvd_mul_right _ _
  rcases hp.euclid hd with h1 | h1
  · exact absurd (Nat.le_of_dvd (by omega) h1) (by omega)
  · exact h1
theorem Pr.frob {p : Nat} (hp : Pr p) (a : Nat) : (a + 1) ^ p % p = (a ^ p + 1) % p := by
  obtain ⟨n, rfl⟩ : ∃ m, p = m + 1 := ⟨p - 1, by have := hp.1; omega⟩
  rw [binom a (n + 1), sm, sm_first, ch_self, ch_zero]
  have hd : (n + 1) ∣ sm n (fun i => ch (n + 1) (i + 1) * a ^ (i + 1)) := sm_dvd n (fun i hi => Nat.dvd_trans (hp.ch_dvd (i + 1) (by omega) (by omega)) (Nat.dvd_mul_right _ _))
  obtain ⟨c, hc⟩ := hd
  rw [hc]
  have e : 1 * a ^ 0 + (n + 1) * c + 1 * a ^ (n + 1) = a ^ (n + 1) + 1 + (n + 1) * c := by simp; omega
  rw [e, Nat.add_mul_mod_self_left]
theorem Pr.fermat' {p : Nat} (hp : Pr p) : ∀ a, a ^ p % p = a % p
  | 0 => by have := hp.1; rw [Nat.zero_pow (by omega)]
  | a + 1 => by rw [hp.frob a, Nat.add_mod, hp.fermat' a, ← Nat.add_mod]
theorem Pr.fermat {p : Nat} (hp : Pr p) {a : Nat} (ha : ¬ p ∣ a) : a ^ (p - 1) % p = 1 := by
  have h1 := hp.fermat' a
  have h2 := hp.1
  have e : a ^ p = a * a ^ (p - 1) := by rw [← Nat.pow_succ', show (p - 1).succ = p by omega]
  have hpos : 1 ≤ a ^ (p - 1) := Nat.one_le_iff_ne_zero.2 (fun h => ha (by
    have : a = 0 := by
      rcases Nat.eq_zero_or_pos a with h0 | h0
      · exact h0
      · have := Nat.pow_pos (n := p - 1) h0; omega
    rw [this]; exact Nat.dvd_zero _))
  have hd : p ∣ a * (a ^ (p - 1) - 1) := by
    rw [Nat.mul_sub, Nat.mul_one, ← e]
    exact Nat.dvd_of_mod_eq_zero (Nat.sub_mod_eq_zero_of_mod_eq h1)
  rcases hp.euclid hd with h | h
  · exact absurd h ha
  · obtain ⟨c, hc⟩ := h
    have h3 : a ^ (p - 1) = 1 + p * c := by omega
    rw [h3, Nat.add_mul_mod_self_left, Nat.mod_eq_of_lt (by omega)]
theorem exists_pr : ∀ n, 2 ≤ n → ∃ q, Pr q ∧ q ∣ n := by
  intro n
  induction n using Nat.strongRecOn with
  | _ n ih =>
    intro hn
    by_cases h : ∀ d, d ∣ n → d = 1 ∨ d = n
    · exact ⟨n, ⟨hn, h⟩, Nat.dvd_refl n⟩
    · have : ∃ d, d ∣ n ∧ d ≠ 1 ∧ d ≠ n := by
        rcases Classical.em (∃ d, d ∣ n ∧ d ≠ 1 ∧ d ≠ n) with h1 | h1
        · exact h1
        · refine absurd (fun d hd => ?_) h
          rcases Classical.em (d = 1) with h2 | h2
          · exact .inl h2
          · rcases Classical.em (d = n) with h3 | h3
            · exact .inr h3
            · exact absurd ⟨d, hd, h2, h3⟩ h1
      obtain ⟨d, hd, h1, h2⟩ := this
      have hle := Nat.le_of_dvd (by omega) hd
      have h0 : d ≠ 0 := fun e => by subst e; have := Nat.eq_zero_of_zero_dvd hd; omega
      obtain ⟨q, hq, hqd⟩ := ih d (by omega) (by omega)
      exact ⟨q, hq, Nat.dvd_trans hqd hd⟩
theorem pow_mod_one {q x m : Nat} (hq : 2 ≤ q) (h : x % q = 1) : x ^ m % q = 1 := by
  rw [Nat.pow_mod, h, Nat.one_pow, Nat.mod_eq_of_lt (by omega)]
theorem neg_pow_odd {q x : Nat} (h : q ∣ x + 1) : ∀ m, q ∣ x ^ (2 * m + 1) + 1
  | 0 => by simpa using h
  | m + 1 => by
    have ih := neg_pow_odd h m
    have e : x ^ (2 * (m + 1) + 1) + 1 + x * (x + 1) = x * x * (x ^ (2 * m + 1) + 1) + (x + 1) := by
      have : x ^ (2 * (m + 1) + 1) = x * x * x ^ (2 * m + 1) := by rw [show 2 * (m + 1) + 1 = 2 * m + 1 + 2 by omega, Nat.pow_add]; grind
      rw [this]; grind
    have h1 : q ∣ x * x * (x ^ (2 * m + 1) + 1) + (x + 1) := Nat.dvd_add (Nat.dvd_trans ih (Nat.dvd_mul_left _ _)) h
    rw [← e] at h1
    exact (Nat.dvd_add_left (Nat.dvd_trans h (Nat.dvd_mul_left _ _))).1 h1
/-- Pocklington's step: b^(2^k e) with k + 1 twos. -/
theorem pock_step {q b e k : Nat} (hq : Pr q) (hodd : q ≠ 2) (h : q ∣ b ^ (2 ^ k * e) + 1) : ∀ j, j ≤ k + 1 → 2 ^ j ∣ q - 1
  | 0, _ => by simp
  | j + 1, hj => by
    obtain ⟨m, hm⟩ := pock_step hq hodd h j (by omega)
    rcases Nat.mod_two_eq_zero_or_one m with h0 | h1
    · refine ⟨m / 2, ?_⟩
      rw [hm, Nat.pow_succ, Nat.mul_assoc]; congr 1; omega
    · exfalso
      have hb : ¬ q ∣ b ^ e := fun hd => by
        have h2 : q ∣ b ^ (2 ^ k * e) := by
          rw [Nat.mul_comm, Nat.pow_mul]
          have : 2 ^ k = (2 ^ k - 1) + 1 := by have := Nat.two_pow_pos k; omega
          rw [this, Nat.pow_succ]; exact Nat.dvd_trans hd (Nat.dvd_mul_left _ _)
        have h3 := (Nat.dvd_add_right h2).1 h
        have := Nat.le_of_dvd (by omega) h3
        have := hq.1; omega
      have hf := hq.fermat hb
      have h4 : ((b ^ e) ^ (q - 1)) ^ (2 ^ (k - j)) % q = 1 := pow_mod_one hq.1 hf
      have h5 := neg_pow_odd h (m / 2)
      have e1 : ((b ^ e) ^ (q - 1)) ^ (2 ^ (k - j)) = (b ^ (2 ^ k * e)) ^ (2 * (m / 2) + 1) := by
        rw [← Nat.pow_mul, ← Nat.pow_mul, ← Nat.pow_mul, hm, show 2 * (m / 2) + 1 = m by omega]
        congr 1
        have : 2 ^ k = 2 ^ j * 2 ^ (k - j) := by rw [← Nat.pow_add]; congr 1; omega
        rw [this]; grind
      rw [← e1] at h5
      generalize ((b ^ e) ^ (q - 1)) ^ (2 ^ (k - j)) = y at h4 h5
      have h6 : (y + 1) % q = 0 := Nat.mod_eq_zero_of_dvd h5
      rw [Nat.add_mod, h4] at h6
      have h7 := hq.1
      rcases Nat.lt_or_ge 2 q with h8 | h8
      · rw [Nat.mod_eq_of_lt (a := 1) (by omega), Nat.mod_eq_of_lt (by omega)] at h6; omega
      · omega
/-- Powers modulo n, fast. -/
def pm : Nat → Nat → Nat → Nat → Nat
  | 0, _, _, _ => 1
  | f + 1, b, e, n => if e = 0 then 1 else if e % 2 = 1 then b * pm f (b * b % n) (e / 2) n % n else pm f (b * b % n) (e / 2) n
theorem pm_spec (n : Nat) : ∀ f b e, e < 2 ^ f → pm f b e n % n = b ^ e % n
  | 0, b, e, h => by
    have : e = 0 := by simpa using h
    subst this; simp [pm]
  | f + 1, b, e, h => by
    rw [pm]
    have h2 : e / 2 < 2 ^ f := by rw [Nat.pow_succ] at h; omega
    have ih := pm_spec n f (b * b % n) (e / 2) h2
    have e1 : (b * b % n) ^ (e / 2) % n = b ^ (2 * (e / 2)) % n := by rw [← Nat.pow_mod, Nat.pow_mul, Nat.pow_two]
    split
    · rename_i h0; rw [h0]; simp
    · split
      · rename_i h1
        rw [Nat.mod_mod, Nat.mul_mod, ih, e1, ← Nat.mul_mod, ← Nat.pow_succ', show (2 * (e / 2)).succ = e by omega]
      · rename_i h1
        rw [ih, e1, show 2 * (e / 2) = e by omega]
theorem big_half : pm 64 7 (2 ^ 31 * 4294967295) 18446744069414584321 = 18446744069414584320 := by decide +kernel
theorem pr_big : Pr 18446744069414584321 := by
  refine ⟨by decide, fun d hd => ?_⟩
  have key : ∀ q, Pr q → q ∣ 18446744069414584321 → 4294967297 ≤ q := by
    intro q hq hdv
    have hodd : q ≠ 2 := fun e => by subst e; revert hdv; decide
    obtain ⟨e, he⟩ : ∃ e, e = 4294967295 := ⟨_, rfl⟩
    have h1 : 18446744069414584321 ∣ 7 ^ (2 ^ 31 * e) + 1 := by
      have hb : pm 64 7 (2 ^ 31 * e) 18446744069414584321 = 18446744069414584320 := by rw [he]; exact big_half
      have hs := pm_spec 18446744069414584321 64 7 (2 ^ 31 * e) (by rw [he]; decide)
      rw [hb] at hs
      apply Nat.dvd_of_mod_eq_zero
      rw [Nat.add_mod, ← hs]
    have h2 := pock_step (k := 31) hq hodd (Nat.dvd_trans hdv h1) 32 (by omega)
    have h3 := Nat.le_of_dvd (by have := hq.1; omega) h2
    have : (2 : Nat) ^ 32 = 4294967296 := by decide
    omega
  by_cases h1 : d = 1
  · exact .inl h1
  by_cases h2 : d = 18446744069414584321
  · exact .inr h2
  exfalso
  obtain ⟨c, hc⟩ := hd
  have hd0 : d ≠ 0 := fun e => by subst e; simp at hc
  have hc0 : c ≠ 0 := fun e => by subst e; simp at hc
  have hc1 : c ≠ 1 := fun e => by subst e; omega
  obtain ⟨q, hq, hqd⟩ := exists_pr d (by omega)
  obtain ⟨r, hr, hrc⟩ := exists_pr c (by omega)
  have k1 := key q hq (Nat.dvd_trans hqd ⟨c, hc⟩)
  have k2 := key r hr (Nat.dvd_trans hrc ⟨d, by rw [hc, Nat.mul_comm]⟩)
  have l1 := Nat.le_of_dvd (by omega) hqd
  have l2 := Nat.le_of_dvd (by omega) hrc
  have : 4294967297 * 4294967297 ≤ d * c := Nat.mul_le_mul (by omega) (by omega)
  omega
/-- Trial division. -/
def trial (n k : Nat) : Bool := (List.range k).all fun d => d < 2 || n % d != 0
theorem pr_of_trial {n k : Nat} (h2 : 2 ≤ n) (ht : trial n k = true) (hk : n < k * k) : Pr n := by
  have hno : ∀ d, 2 ≤ d → d < k → ¬ d ∣ n := fun d h1 h3 hd => by
    unfold trial at ht
    rw [List.all_eq_true] at ht
    have := ht d (by simpa using h3)
    simp only [Bool.or_eq_true, decide_eq_true_eq, bne_iff_ne] at this
    rcases this with h | h
    · omega
    · exact h (Nat.mod_eq_zero_of_dvd hd)
  refine ⟨h2, fun d hd => ?_⟩
  by_cases h1 : d = 1
  · exact .inl h1
  by_cases h3 : d = n
  · exact .inr h3
  exfalso
  obtain ⟨c, hc⟩ := hd
  have hd0 : d ≠ 0 := fun e => by subst e; simp at hc; omega
  have hc0 : c ≠ 0 := fun e => by subst e; simp at hc; omega
  have hc1 : c ≠ 1 := fun e => by subst e; omega
  have hdk : k ≤ d := by
    rcases Nat.lt_or_ge d k with h | h
    · exact absurd ⟨c, hc⟩ (hno d (by omega) h)
    · exact h
  have hck : k ≤ c := by
    rcases Nat.lt_or_ge c k with h | h
    · exact absurd ⟨d, by rw [hc, Nat.mul_comm]⟩ (hno c (by omega) h)
    · exact h
  have := Nat.mul_le_mul hdk hck
  omega
theorem pr_17 : Pr 17 := pr_of_trial (k := 5) (by decide) (by decide) (by decide)
theorem pr_97 : Pr 97 := pr_of_trial (k := 10) (by decide) (by decide) (by decide)
theorem pr_193 : Pr 193 := pr_of_trial (k := 14) (by decide) (by decide) (by decide)
theorem pr_257 : Pr 257 := pr_of_trial (k := 17) (by decide) (by decide +kernel) (by decide)
theorem pr_12289 : Pr 12289 := pr_of_trial (k := 111) (by decide) (by decide +kernel) (by decide)
theorem pr_65537 : Pr 65537 := pr_of_trial (k := 257) (by decide) (by decide +kernel) (by decide)
end Go.Proofs.Ytgnngifnoaagjaa.Q

