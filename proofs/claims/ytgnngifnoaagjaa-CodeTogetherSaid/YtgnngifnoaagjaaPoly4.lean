/- Contracts of package poly: without, Vanishing. -/
import Derived.Test.YtgnngifnoaagjaaPoly3
import Derived.Test.YtgnngifnoaagjaaGP
namespace Go.Proofs.Ytgnngifnoaagjaa
open Go.RowKit

def WRel (p x : Nat) (l : List Nat) (n : Nat) (w0 : World) (g : Nat) (v s : Value) (wr : World) : Prop :=
  ∃ k : Nat, s = .int .i64 ((k : Int) - 1) ∧ k ≤ n ∧ v = .int .u64 (horner p x (l.drop (k + 1))) ∧ Arr wr g (tab n (wq p x l k)) n ∧ Ext w0 wr

def VRel (p : Nat) (xs : List Nat) (w0 : World) (v s : Value) (wr : World) : Prop :=
  ∃ k : Nat, s = .int .i64 k ∧ k ≤ xs.length ∧ Own wr w0.heap.size v (pvanK p xs k) ∧ Ext w0 wr
def VIn (p x : Nat) (V : List Nat) (n c : Nat) (w0 : World) (g : Nat) (s : Value) (wr : World) : Prop :=
  ∃ j : Nat, s = .int .i64 j ∧ j + 1 ≤ n ∧ Arr wr g (tab n (vin p x V j)) c ∧ Ext w0 wr

theorem van_start (w1 : World) (n : Nat) (hn : n ≤ 100000) : Own (w1.alloc (.cells ((rowA (List.replicate (n + 1) 0)).setIfInBounds 0 (.int .u64 1)) 22)) w1.heap.size (.slice (some ⟨w1.heap.size, 0, none⟩) 1 (n + 1)) [1] := by
  have e : (rowA (List.replicate (n + 1) 0)).setIfInBounds 0 (.int .u64 1) = rowA ([1] ++ List.replicate n 0) := by
    have := rowA_set (List.replicate (n + 1) 0) 0 1
    rw [List.replicate_succ, List.set_cons_zero] at this
    exact this
  rw [e]
  have := Own.ofBlk (l := [1]) (m := List.replicate n 0) (base := w1.heap.size) (Blk.new w1 (rowA ([1] ++ List.replicate n 0))) (Nat.le_refl _) (by simp [maxLen]; omega)
  have e2 : ([1] ++ List.replicate n 0).length = n + 1 := by simp
  rw [e2] at this
  exact this

end Go.Proofs.Ytgnngifnoaagjaa
