/- math/bits.Mul64 and Div64 (as the fields use them). -/
import Derived.Test.YteomgccpocgffaaField
import Derived.Lib.Mul64
import Derived.Laws.Bits64b
namespace Go.Proofs.Yteomgccpocgffaa
open Go.RowKit

theorem maskN (a : Nat) (ha : a < 18446744073709551616) : bits .and .u64 (a : Int) 4294967295 = ((a % 4294967296 : Nat) : Int) := by
  have h := bits_and_u64_nat a 4294967295 ha (by omega)
  have e : a &&& 4294967295 = a % 4294967296 := Nat.and_two_pow_sub_one_eq_mod a 32
  rw [e] at h
  exact h
theorem divN (a : Nat) : (a : Int) / 4294967296 = ((a / 4294967296 : Nat) : Int) := by omega
theorem mulN (a b : Nat) : (a : Int) * (b : Int) = ((a * b : Nat) : Int) := (Int.natCast_mul a b).symm
theorem addN (a b : Nat) : (a : Int) + (b : Int) = ((a + b : Nat) : Int) := (Int.natCast_add a b).symm
theorem wrapN (a : Nat) (ha : a < 18446744073709551616) : IntKind.u64.wrap (a : Int) = (a : Int) := by rw [IntKind.wrap_u64]; omega
theorem wrapM (a : Nat) : IntKind.u64.wrap (a : Int) = ((a % 18446744073709551616 : Nat) : Int) := by rw [IntKind.wrap_u64]; omega

theorem wrapDiv (a b : Nat) (h : a < 18446744073709551616) : IntKind.u64.wrap ((a : Int) / (b : Int)) = ((a / b : Nat) : Int) := by
  have e : (a : Int) / (b : Int) = ((a / b : Nat) : Int) := rfl
  have := Nat.div_le_self a b
  rw [e, IntKind.wrap_u64]
  generalize a / b = c at this ⊢
  clear e; omega
/-- One digit of the division by 2^64 - 2^32 + 1: the guess, and what is left. -/
structure Digit (u d q r : Nat) : Prop where
  lt : u < 18446744069414584321
  dlt : d < 4294967296
  eq : u = q * 4294967295 + r
  rlt : r < 4294967295
theorem Digit.q_le {u d q r : Nat} (h : Digit u d q r) : q ≤ 4294967296 := by have := h.lt; have := h.eq; omega
theorem Digit.over {u d q r : Nat} (h : Digit u d q r) (hc : r * 4294967296 + d < q) : r = 0 ∧ 0 < q := by have := h.q_le; omega
theorem Digit.noc {u d q r : Nat} (h : Digit u d q r) (hc : ¬ r * 4294967296 + d < q) : q ≤ 4294967295 := by have := h.lt; have := h.eq; have := h.dlt; omega
def DivPost (p hi lo : Nat) (w : World) (e : Ending) (w' : World) : Prop := ∃ q : Int, e = .returned (.tuple #[.int .u64 q, .int .u64 (((hi * 18446744073709551616 + lo) % p : Nat) : Int)]) ∧ Ext w w'
/-- The digit, corrected. -/
def dig (q r d : Nat) : Nat := if r * 4294967296 + d < q then q - 1 else q
def rst (q r d : Nat) : Nat := if r * 4294967296 + d < q then d + 18446744069414584321 - q else r * 4294967296 + d - q
theorem Digit.fin {u d q r : Nat} (h : Digit u d q r) : u * 4294967296 + d = dig q r d * 18446744069414584321 + rst q r d ∧ rst q r d < 18446744069414584321 := by
  have h1 := h.q_le; have h2 := h.eq; have h3 := h.dlt; have h4 := h.rlt
  unfold dig rst
  split
  · have := h.over (by assumption); omega
  · omega
theorem Digit.mk' (u d : Nat) (hu : u < 18446744069414584321) (hd : d < 4294967296) : Digit u d (u / 4294967295) (u % 4294967295) := ⟨hu, hd, by omega, by omega⟩
theorem Digit.wrap {u d q r : Nat} (h : Digit u d q r) :
    IntKind.u64.wrap (IntKind.u64.wrap (IntKind.u64.wrap ((u : Int) * 4294967296) + (d : Int)) - IntKind.u64.wrap ((dig q r d : Int) * 18446744069414584321)) = (rst q r d : Int) := by
  obtain ⟨h1, h2⟩ := h.fin
  generalize dig q r d = a at *
  generalize rst q r d = b at *
  simp only [IntKind.wrap_u64]
  omega

theorem Digit.next {P u d q r : Nat} (hP : P = 18446744069414584321) (h : Digit u d q r) (l0 x : Nat) (hl0 : l0 < 4294967296) (hx : x = dig q r d) : ∃ v q2 r2 : Nat, Digit v l0 q2 r2 ∧ (v : Int) / 4294967295 = (q2 : Int) ∧ (v : Int) - q2 * 4294967295 = (r2 : Int) ∧
    IntKind.u64.wrap (IntKind.u64.wrap (IntKind.u64.wrap ((u : Int) * 4294967296) + (d : Int)) - IntKind.u64.wrap ((x : Int) * (P : Int))) = (v : Int) ∧ u * 4294967296 + d = x * P + v := by
  subst hP
  obtain ⟨h1, h2⟩ := h.fin
  refine ⟨rst q r d, rst q r d / 4294967295, rst q r d % 4294967295, Digit.mk' _ _ h2 hl0, by omega, by omega, by rw [hx]; exact h.wrap, by rw [hx]; exact h1⟩
theorem rem_fin' {B P W hi lo l1 l0 x u y v : Nat} (hW : W = B * B) (h1 : lo = l1 * B + l0) (h2 : hi * B + l1 = x * P + u) (h3 : u * B + l0 = y * P + v) : hi * W + lo = v + P * (x * B + y) := by
  subst hW h1
  have e1 : hi * (B * B) + (l1 * B + l0) = (hi * B + l1) * B + l0 := by grind
  rw [e1, h2]
  have e2 : (x * P + u) * B + l0 = x * P * B + (u * B + l0) := by grind
  rw [e2, h3]; grind
theorem rem_fin {P hi lo l1 l0 x u y v : Nat} (h1 : lo = l1 * 4294967296 + l0) (h2 : hi * 4294967296 + l1 = x * P + u) (h3 : u * 4294967296 + l0 = y * P + v) (h4 : v < P) :
    (hi * 18446744073709551616 + lo) % P = v := by
  rw [rem_fin' (B := 4294967296) (by decide) h1 h2 h3, Nat.add_mul_mod_self_left, Nat.mod_eq_of_lt h4]

end Go.Proofs.Yteomgccpocgffaa
