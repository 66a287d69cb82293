/- Transforms: the functions with their errors. -/
import Derived.Test.YtgnngifnoaagjaaMath6
namespace Go.Proofs.Ytgnngifnoaagjaa
def okT (p : Nat) (n : Int) : Bool := rootB (if n ≤ 4096 then p else 0) n
theorem okT_and (p : Nat) (n : Int) : okT p n = (rootB p n && decide (n ≤ 4096)) := by
  unfold okT; by_cases h : n ≤ 4096
  · rw [if_pos h, decide_eq_true h, Bool.and_true]
  · rw [if_neg h, decide_eq_false h, Bool.and_false]; rfl
theorem okT_spec {p : Nat} {n : Int} (h : okT p n = true) : vld p = true ∧ ∃ k, k ≤ 12 ∧ n = ((2 ^ k : Nat) : Int) ∧ (p - 1) % 2 ^ k = 0 ∧ rootV (if n ≤ 4096 then p else 0) n = rootN p (2 ^ k) := by
  rw [okT_and, Bool.and_eq_true, decide_eq_true_eq] at h
  obtain ⟨h1, ⟨k, hk, rfl⟩, h2⟩ := rootB_spec h.1
  refine ⟨h1, k, ?_, rfl, by rwa [Int.toNat_natCast] at h2, ?_⟩
  · rcases Nat.lt_or_ge 12 k with h3 | h3
    · have := Nat.pow_le_pow_right (show 0 < 2 by omega) (show 13 ≤ k by omega)
      have h4 := h.2
      omega
    · exact h3
  · rw [if_pos h.2]; unfold rootV; rw [h.1, if_pos rfl, Int.toNat_natCast]
theorem okT_vld {p : Nat} {n : Int} (h : vld p = false) : okT p n = false := by
  rw [okT_and]; unfold rootB; rw [h]; rfl
def tF (p : Nat) (l : List Nat) : List Nat × Int :=
  if vld p = false then ([], 7) else if okT p l.length = true then (tfor p (Nat.log2 l.length) l (rootN p l.length), 0) else ([], 1)
def tI (p : Nat) (l : List Nat) : List Nat × Int :=
  if vld p = false then ([], 7) else if okT p l.length = true then (tinv p (Nat.log2 l.length) l (rootN p l.length) l.length, 0) else ([], 1)
def tD (p s : Nat) (n : Int) : List Nat × Int :=
  if vld p = false then ([], 7) else if okT p n = true ∧ s % p ≠ 0 then (rdom p (s % p) (rootN p n.toNat) n.toNat, 0) else ([], 1)
def tE (p : Nat) (l : List Nat) (s : Nat) (n : Int) : List Nat × Int :=
  if vld p = false then ([], 7) else if okT p n = true ∧ s % p ≠ 0 then
    if l.length ≤ 8192 then (teva p (Nat.log2 n.toNat) l (s % p) (rootN p n.toNat) n.toNat, 0) else ([], 3)
  else ([], 1)
def tN (p : Nat) (v : List Nat) (s : Nat) : List Nat × Int :=
  if vld p = false then ([], 7) else if okT p v.length = true ∧ s % p ≠ 0 then (tint p (Nat.log2 v.length) v s (rootN p v.length) v.length, 0) else ([], 1)
def rE (p : Nat) (l : List Nat) (s : Nat) (n : Int) : List Nat × Int :=
  if vld p = false then ([], 7) else if okT p n = true ∧ s % p ≠ 0 then
    if l.length ≤ 8192 then (reva p l (s % p) (rootN p n.toNat) n.toNat, 0) else ([], 3)
  else ([], 1)
def rI (p : Nat) (v : List Nat) (s : Nat) : List Nat × Int :=
  if vld p = false then ([], 7) else if okT p v.length = true ∧ s % p ≠ 0 then (rintl p v s (rootN p v.length) v.length, 0) else ([], 1)
theorem one_mod {p : Nat} (h : vld p = true) : 1 % p = 1 := Nat.mod_eq_of_lt (by have := vld_bd h; omega)
namespace Q
theorem tF_same (p : Nat) (l : List Nat) : tF p l = rE p l 1 l.length := by
  unfold tF rE
  cases hv : vld p
  · rfl
  · simp only [Bool.true_eq_false, if_false]
    by_cases h : okT p l.length = true
    · obtain ⟨_, k, hk, hn, hd, _⟩ := okT_spec h
      have hn' : l.length = 2 ^ k := by omega
      have h8 : l.length ≤ 8192 := by
        rw [hn']; exact Nat.le_trans (Nat.pow_le_pow_right (by omega) hk) (by decide)
      rw [if_pos h, if_pos ⟨h, by rw [one_mod hv]; omega⟩, if_pos h8, one_mod hv, Int.toNat_natCast, hn', Nat.log2_two_pow, for_same hv hd l hn']
    · rw [if_neg h, if_neg (fun h2 => h h2.1)]
theorem tI_same (p : Nat) (l : List Nat) : tI p l = rI p l 1 := by
  unfold tI rI
  cases hv : vld p
  · rfl
  · simp only [Bool.true_eq_false, if_false]
    by_cases h : okT p l.length = true
    · obtain ⟨_, k, hk, hn, hd, _⟩ := okT_spec h
      have hn' : l.length = 2 ^ k := by omega
      rw [if_pos h, if_pos ⟨h, by rw [one_mod hv]; omega⟩, hn', Nat.log2_two_pow, inv_same hv hd l hn']
    · rw [if_neg h, if_neg (fun h2 => h h2.1)]
theorem tE_same (p : Nat) (l : List Nat) (s : Nat) (n : Int) : tE p l s n = rE p l s n := by
  unfold tE rE
  cases hv : vld p
  · rfl
  · simp only [Bool.true_eq_false, if_false]
    by_cases h : okT p n = true ∧ s % p ≠ 0
    · obtain ⟨_, k, hk, hn, hd, _⟩ := okT_spec h.1
      rw [if_pos h, if_pos h, hn, Int.toNat_natCast, Nat.log2_two_pow, eva_same hv hd l]
    · rw [if_neg h, if_neg h]
theorem tN_same (p : Nat) (v : List Nat) (s : Nat) : tN p v s = rI p v s := by
  unfold tN rI
  cases hv : vld p
  · rfl
  · simp only [Bool.true_eq_false, if_false]
    by_cases h : okT p v.length = true ∧ s % p ≠ 0
    · obtain ⟨_, k, hk, hn, hd, _⟩ := okT_spec h.1
      have hn' : v.length = 2 ^ k := by omega
      rw [if_pos h, if_pos h, hn', Nat.log2_two_pow, int_same hv hd v hn']
    · rw [if_neg h, if_neg h]
end Q
end Go.Proofs.Ytgnngifnoaagjaa
