/- mul, pow, Mul, Inv, Div of package field. -/
import Derived.Test.YteomgccpocgffaaDiv
namespace Go.Proofs.Yteomgccpocgffaa
open Go.RowKit

theorem mul_hi {p a b : Nat} (hp : vld p = true) (ha : a < p) (hb : b < p) : (a * b / 18446744073709551616 = 0 ∨ p = 18446744069414584321) ∧ a * b / 18446744073709551616 < p := by
  have h1 : a * b ≤ (p - 1) * (p - 1) := Nat.mul_le_mul (by omega) (by omega)
  rcases vld_cases hp with h | h | h | h | h | h | h <;> subst h <;> refine ⟨?_, by omega⟩ <;> first | exact .inr rfl | exact .inl (by omega)
theorem mul_val (p a b : Nat) : (a * b / 18446744073709551616 * 18446744073709551616 + a * b % 18446744073709551616) % p = a * b % p := by
  rw [Nat.div_add_mod']

theorem pow_odd {p a0 e0 x b k : Nat} (h : x * b ^ k % p = a0 ^ e0 % p) (hk : k % 2 = 1) : (x * b % p) * (b * b % p) ^ (k / 2) % p = a0 ^ e0 % p := by
  rw [← h, Nat.mod_mul_mod, Nat.mul_mod, Nat.pow_mod, Nat.mod_mod, ← Nat.pow_mod, ← Nat.mul_mod]
  have e1 : (b * b) ^ (k / 2) = b ^ (2 * (k / 2)) := by rw [Nat.pow_mul, Nat.pow_two]
  have e2 : k = 2 * (k / 2) + 1 := by omega
  rw [e1]
  conv => rhs; rw [e2, Nat.pow_succ]
  rw [Nat.mul_assoc, Nat.mul_comm b]
theorem pow_even {p a0 e0 x b k : Nat} (h : x * b ^ k % p = a0 ^ e0 % p) (hk : k % 2 = 0) : x * (b * b % p) ^ (k / 2) % p = a0 ^ e0 % p := by
  rw [← h, Nat.mul_mod, Nat.pow_mod, Nat.mod_mod, ← Nat.pow_mod, ← Nat.mul_mod]
  have e1 : (b * b) ^ (k / 2) = b ^ (2 * (k / 2)) := by rw [Nat.pow_mul, Nat.pow_two]
  have e2 : 2 * (k / 2) = k := by omega
  rw [e1, e2]
theorem pow_last {p a0 e0 x b : Nat} (h : x * b ^ 1 % p = a0 ^ e0 % p) : (x * b % p) * b ^ 0 % p = a0 ^ e0 % p := by
  simpa using h

def PowRel (p a e : Nat) (w0 : World) (s7 s1 s2 : Value) (wr : World) : Prop :=
  ∃ x b k : Nat, s7 = .int .u64 x ∧ s1 = .int .u64 b ∧ s2 = .int .u64 k ∧ x < p ∧ b < p ∧ k < 18446744073709551616 ∧ x * b ^ k % p = a ^ e % p ∧ Ext w0 wr

end Go.Proofs.Yteomgccpocgffaa
