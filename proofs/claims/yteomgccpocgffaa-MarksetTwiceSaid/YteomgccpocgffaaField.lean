/- Contracts of the functions of package field that the laws reach. -/
import Derived.Test.YteomgccpocgffaaReg
namespace Go.Proofs.Yteomgccpocgffaa
open Go.RowKit

theorem neg_val {p n : Nat} (h : vld p = true) (h0 : 0 < fred p n) : (p : Int) - (fred p n : Int) = (fneg p n : Int) := by
  have hlt := lt_of_mod (n := n) h
  unfold fred at h0 ⊢; unfold fneg
  rw [if_pos h] at h0 ⊢
  rw [if_pos h, Nat.mod_eq_of_lt (a := p - n % p) (by omega)]; omega
end Go.Proofs.Yteomgccpocgffaa
