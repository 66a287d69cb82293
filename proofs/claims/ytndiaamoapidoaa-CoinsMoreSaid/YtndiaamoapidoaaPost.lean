/- What calls leave: words shared by many contracts. -/
import Derived.Test.YtndiaamoapidoaaApp
namespace Go.Proofs.Ytndiaamoapidoaa
def SlPost (w : World) (l : List Nat) (e : Ending) (w' : World) : Prop := ∃ v, e = .returned v ∧ Own w' w.heap.size v l ∧ Ext w w'
def IPost (w : World) (q : List Nat) (n : Int) (e : Ending) (w' : World) : Prop :=
  ∃ v, e = .returned (.tuple #[v, .int .i64 n]) ∧ Own w' w.heap.size v q ∧ Ext w w'
end Go.Proofs.Ytndiaamoapidoaa
