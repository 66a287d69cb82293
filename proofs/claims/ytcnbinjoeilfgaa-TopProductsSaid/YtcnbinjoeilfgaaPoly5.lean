/- Contracts of package poly: DivMod. -/
import Derived.Test.YtcnbinjoeilfgaaPoly4
namespace Go.Proofs.Ytcnbinjoeilfgaa
open Go.RowKit

def DMPost (w : World) (q r : List Nat) (n : Int) (e : Ending) (w' : World) : Prop :=
  ∃ v u, e = .returned (.tuple #[v, u, .int .i64 n]) ∧ Own w' w.heap.size v q ∧ Own w' w.heap.size u r ∧ Ext w w'

def DOut (p : Nat) (A B : List Nat) (n inv : Nat) (w2 : World) (g1 c1 g2 : Nat) (s : Value) (wr : World) : Prop :=
  ∃ k : Nat, s = .int .i64 ((k : Int) - 1) ∧ k ≤ n ∧ Arr wr g1 (tab A.length (dR p A B n inv (n - k))) c1 ∧ Arr wr g2 (tab n (dQ p A B n inv k)) n ∧ Ext w2 wr
def DIn (p : Nat) (R : Nat → Nat) (la i fac : Nat) (B : List Nat) (w2 : World) (g1 c1 g2 n : Nat) (Q : List Nat) (s : Value) (wr : World) : Prop :=
  ∃ k : Nat, s = .int .i64 k ∧ k ≤ B.length ∧ Arr wr g1 (tab la (drow p R i fac B k)) c1 ∧ Arr wr g2 Q n ∧ Ext w2 wr

end Go.Proofs.Ytcnbinjoeilfgaa
