/- Plain definitions: the arithmetic of the seven fields on natural numbers. -/
import Derived.Test.YtndiaamoapidoaaRows
import Derived.WalkKit
import Derived.WalkSpells
import Derived.WalkLawsBesides
import Derived.Below
import Derived.Lib.Hide
namespace Go.Proofs.Ytndiaamoapidoaa
open Go.RowKit

def vld (p : Nat) : Bool := p == 17 || p == 97 || p == 193 || p == 257 || p == 12289 || p == 65537 || p == 18446744069414584321
def fred (p n : Nat) : Nat := if vld p then n % p else 0
def fadd (p a b : Nat) : Nat := if vld p then (a + b) % p else 0
def fneg (p a : Nat) : Nat := if vld p then (p - a % p) % p else 0
def fsub (p a b : Nat) : Nat := fadd p a (fneg p b)
def fmul (p a b : Nat) : Nat := if vld p then a * b % p else 0
def fpow (p a e : Nat) : Nat := if vld p then a ^ e % p else 0
def finv (p a : Nat) : Nat := fpow p a (p - 2)
def fdiv (p a b : Nat) : Nat := fmul p a (finv p b)

/-- 2^64, behind a name that no rule opens. -/
def W64 : Nat := 18446744073709551616

theorem vld_cases {p : Nat} (h : vld p = true) : p = 17 ∨ p = 97 ∨ p = 193 ∨ p = 257 ∨ p = 12289 ∨ p = 65537 ∨ p = 18446744069414584321 := by
  simp only [vld, Bool.or_eq_true, beq_iff_eq] at h; omega
theorem vld_not {p : Nat} (h : vld p = false) : p ≠ 17 ∧ p ≠ 97 ∧ p ≠ 193 ∧ p ≠ 257 ∧ p ≠ 12289 ∧ p ≠ 65537 ∧ p ≠ 18446744069414584321 := by
  simp only [vld, Bool.or_eq_false_iff, beq_eq_false_iff_ne] at h; omega
theorem vld_bd {p : Nat} (h : vld p = true) : 17 ≤ p ∧ p ≤ 18446744069414584321 := by
  rcases vld_cases h with h | h | h | h | h | h | h <;> omega
theorem fred_le {p n : Nat} : fred p n ≤ n := by unfold fred; split; exact Nat.mod_le _ _; exact Nat.zero_le _
theorem lt_of_mod {p n : Nat} (h : vld p = true) : n % p < p := Nat.mod_lt _ (by have := vld_bd h; omega)
theorem fred_bd (p n : Nat) : fred p n < 18446744073709551616 := by
  unfold fred; split
  · rename_i h; have := lt_of_mod (n := n) h; have := vld_bd h; omega
  · omega
theorem fadd_bd (p a b : Nat) : fadd p a b < 18446744073709551616 := by
  unfold fadd; split
  · rename_i h; have := lt_of_mod (n := a + b) h; have := vld_bd h; omega
  · omega
theorem fneg_bd (p a : Nat) : fneg p a < 18446744073709551616 := by
  unfold fneg; split
  · rename_i h; have := lt_of_mod (n := p - a % p) h; have := vld_bd h; omega
  · omega
theorem fmul_bd (p a b : Nat) : fmul p a b < 18446744073709551616 := by
  unfold fmul; split
  · rename_i h; have := lt_of_mod (n := a * b) h; have := vld_bd h; omega
  · omega
theorem fpow_bd (p a b : Nat) : fpow p a b < 18446744073709551616 := by
  unfold fpow; split
  · rename_i h; have := lt_of_mod (n := a ^ b) h; have := vld_bd h; omega
  · omega
theorem fsub_bd (p a b : Nat) : fsub p a b < 18446744073709551616 := fadd_bd _ _ _
theorem finv_bd (p a : Nat) : finv p a < 18446744073709551616 := fpow_bd _ _ _
theorem fdiv_bd (p a b : Nat) : fdiv p a b < 18446744073709551616 := fmul_bd _ _ _

/-- The world w' is w with blocks more: all that was there is as it was. -/
def Ext (w w' : World) : Prop := Below w.heap.size w w'
theorem Ext.refl (w : World) : Ext w w := Below.refl _ _
theorem Ext.size {w w' : World} (h : Ext w w') : w.heap.size ≤ w'.heap.size := Below.size h
theorem Ext.trans {a b c : World} (h : Ext a b) (k : Ext b c) : Ext a c := Below.trans h (Below.mono k h.size)
theorem Ext.alloc {a w : World} (h : Ext a w) (o : Obj) : Ext a (w.alloc o) := Below.alloc h h.size o
theorem Ext.drew {a w : World} (h : Ext a w) : Ext a w.drew := Below.drew h
theorem Ext.box {w w1 : World} {o : Obj} (h : Ext (w.alloc o) w1) : Ext w w1 := ((Ext.refl w).alloc o).trans h
theorem Ext.ofDrew {w w1 : World} (h : Ext w.drew w1) : Ext w w1 := (Ext.refl w).drew.trans h
theorem Ext.cell {w w1 : World} (h : Ext w w1) {p : Addr} {v : Value} (hc : w.cell? p = some v) : w1.cell? p = some v :=
  (Below.cell h (World.block_lt_of_cell? w p hc)).trans hc
theorem Ext.boxCell {w w1 : World} {v : Value} {t : TypeId} (h : Ext (w.alloc (.cells #[v] t)) w1) : w1.cell? ⟨w.heap.size, 0, none⟩ = some v :=
  h.cell (by simp)
theorem Ext.setNew {a w : World} (h : Ext a w) {p : Addr} (hp : a.heap.size ≤ p.block) (v : Value) : Ext a (w.setCell p v) := Below.setCell h hp v
theorem Ext.below {w w1 : World} (h : Ext w w1) : Below w.heap.size w w1 := h

theorem ret_u (a b : Int) (h : a = b) : Ending.returned (.int .u64 a) = .returned (.int .u64 b) := by rw [h]
end Go.Proofs.Ytndiaamoapidoaa
