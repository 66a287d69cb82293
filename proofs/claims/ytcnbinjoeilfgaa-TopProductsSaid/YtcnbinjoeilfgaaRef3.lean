/- Contracts of moidoreref03, first part. -/
import Derived.Test.YtcnbinjoeilfgaaPoly
import Derived.Test.YtcnbinjoeilfgaaGS
namespace Go.Proofs.Ytcnbinjoeilfgaa
open Go.RowKit

/-- The relation of a loop that appends, element by element. -/
def AppRel (f : Nat → Nat) (n : Nat) (w : World) (s i : Value) (wr : World) : Prop :=
  ∃ k : Nat, i = .int .i64 k ∧ k ≤ n ∧ Own wr w.heap.size s ((List.range k).map f) ∧ Ext w wr
theorem AppRel.start (f : Nat → Nat) (n : Nat) (w : World) : AppRel f n w (.slice none 0 0) (.int .i64 0) w := ⟨0, rfl, Nat.zero_le _, Own.nil _ _, Ext.refl _⟩

def MulRel (p : Nat) (l m : List Nat) (w : World) (s i : Value) (wr : World) : Prop :=
  ∃ k : Nat, i = .int .i64 k ∧ k ≤ l.length ∧ Own wr w.heap.size s (rmulK p l m k) ∧ Ext w wr

end Go.Proofs.Ytcnbinjoeilfgaa
