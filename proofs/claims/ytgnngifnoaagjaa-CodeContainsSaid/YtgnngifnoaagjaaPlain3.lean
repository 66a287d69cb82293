/- Plain lists, third part: transforms. -/
import Derived.Test.YtgnngifnoaagjaaPlain2
namespace Go.Proofs.Ytgnngifnoaagjaa

/-- The generator of a known prime. -/
def gent (p : Nat) : Nat :=
  if p = 17 then 3 else if p = 97 then 5 else if p = 193 then 5 else if p = 257 then 3 else if p = 12289 then 11 else if p = 65537 then 3 else if p = 18446744069414584321 then 7 else 0
/-- Is n a length that has a root? -/
def rootB (p : Nat) (n : Int) : Bool := vld p && decide (1 ≤ n) && decide (∃ k, k < 63 ∧ n.toNat = 2 ^ k) && decide ((p - 1) % n.toNat = 0)
def rootN (p n : Nat) : Nat := gent p ^ ((p - 1) / n) % p
def rootV (p : Nat) (n : Int) : Nat := if rootB p n then rootN p n.toNat else 0
theorem rootB_vld {p : Nat} {n : Int} (h : rootB p n = true) : vld p = true := by
  simp only [rootB, Bool.and_eq_true] at h; exact h.1.1.1
theorem rootB_spec {p : Nat} {n : Int} (h : rootB p n = true) : vld p = true ∧ (∃ k, k < 63 ∧ n = ((2 ^ k : Nat) : Int)) ∧ (p - 1) % n.toNat = 0 := by
  simp only [rootB, Bool.and_eq_true, decide_eq_true_eq] at h
  obtain ⟨⟨⟨h1, h2⟩, k, hk, h3⟩, h4⟩ := h
  exact ⟨h1, ⟨k, hk, by omega⟩, h4⟩
theorem rootB_mk {p k : Nat} (hv : vld p = true) (hk : k < 63) (h : (p - 1) % 2 ^ k = 0) : rootB p ((2 ^ k : Nat) : Int) = true := by
  simp only [rootB, Bool.and_eq_true, decide_eq_true_eq, hv, Int.toNat_natCast, h]
  exact ⟨⟨⟨trivial, by have := Nat.two_pow_pos k; omega⟩, k, hk, rfl⟩, trivial⟩

/-! ### the fast transform -/
def evens (l : List Nat) (n : Nat) : List Nat := tab n (fun i => l.getD (2 * i) 0)
def odds (l : List Nat) (n : Nat) : List Nat := tab n (fun i => l.getD (2 * i + 1) 0)
/-- One level: the values of the halves joined. -/
def joinv (p : Nat) (e o : List Nat) (n w : Nat) : Nat → Nat := fun i =>
  if i < n then fadd p (e.getD i 0) (fmul p (pwK p w i) (o.getD i 0)) else fsub p (e.getD (i - n) 0) (fmul p (pwK p w (i - n)) (o.getD (i - n) 0))
/-- The first k pairs joined, the list l behind. -/
def joink (p : Nat) (l e o : List Nat) (n w k : Nat) : Nat → Nat := fun t =>
  if t < k ∨ (n ≤ t ∧ t < n + k) then joinv p e o n w t else l.getD t 0
def fft (p : Nat) : Nat → List Nat → Nat → List Nat
  | 0, l, _ => l
  | k + 1, l, w => tab (2 ^ (k + 1)) (joinv p (fft p k (evens l (2 ^ k)) (fmul p w w)) (fft p k (odds l (2 ^ k)) (fmul p w w)) (2 ^ k) w)
theorem fft_len (p : Nat) : ∀ k l w, l.length = 2 ^ k → (fft p k l w).length = 2 ^ k
  | 0, _, _, h => h
  | k + 1, _, _, _ => by rw [fft, tab_len]
theorem joink_zero (p : Nat) (l e o : List Nat) (n w : Nat) : joink p l e o n w 0 = fun t => l.getD t 0 := by
  funext t; unfold joink; rw [if_neg (by omega)]
theorem joink_all (p : Nat) (l e o : List Nat) (n w : Nat) : tab (n + n) (joink p l e o n w n) = tab (n + n) (joinv p e o n w) := by
  refine tab_congr fun t ht => ?_
  unfold joink; rw [if_pos (by omega)]
theorem joink_step (p : Nat) (l e o : List Nat) (n w k m : Nat) (h : k < n) :
    ((tab m (joink p l e o n w k)).set k (fadd p (e.getD k 0) (fmul p (pwK p w k) (o.getD k 0)))).set (k + n) (fsub p (e.getD k 0) (fmul p (pwK p w k) (o.getD k 0))) = tab m (joink p l e o n w (k + 1)) := by
  rw [tab_set]
  refine tab_upd fun t _ => ?_
  unfold joink
  by_cases h1 : t = k + n
  · subst h1; rw [if_pos (by omega), if_pos rfl]
    unfold joinv; rw [if_neg (by omega), Nat.add_sub_cancel]
  · rw [if_neg h1]
    by_cases h2 : t = k
    · subst h2; rw [if_pos (by omega), if_pos rfl]; unfold joinv; rw [if_pos h]
    · rw [if_neg h2]
      by_cases h3 : t < k ∨ (n ≤ t ∧ t < n + k)
      · rw [if_pos h3, if_pos (by omega)]
      · rw [if_neg h3, if_neg (by omega)]

/-! ### domains, values -/
/-- The point with number i: s times w to the i. -/
def dmK (p s w : Nat) : Nat → Nat
  | 0 => s
  | i + 1 => fmul p (dmK p s w i) w
/-- Coefficients that are folded onto n places, each times a power of s; the first k done. -/
def fold (p : Nat) (a : List Nat) (s n : Nat) : Nat → Nat → Nat
  | 0 => fun _ => 0
  | k + 1 => fun t => if t = k % n then fadd p (fold p a s n k t) (fmul p (a.getD k 0) (pwK p s k)) else fold p a s n k t
theorem fold_step (p : Nat) (a : List Nat) (s n k : Nat) :
    (tab n (fold p a s n k)).set (k % n) (fadd p (fold p a s n k (k % n)) (fmul p (a.getD k 0) (pwK p s k))) = tab n (fold p a s n (k + 1)) := by
  refine tab_upd fun t _ => ?_
  show (if t = k % n then _ else _) = _
  by_cases h : t = k % n
  · rw [if_pos h, if_pos h, h]
  · rw [if_neg h, if_neg h]
end Go.Proofs.Ytgnngifnoaagjaa
