/- Contracts of package poly, second part. -/
import Derived.Test.YtgnngifnoaagjaaRef3
import Derived.Test.YtgnngifnoaagjaaMap
namespace Go.Proofs.Ytgnngifnoaagjaa
open Go.RowKit

theorem nodup_snoc (l : List Nat) (x : Nat) : (l ++ [x]).Nodup ↔ l.Nodup ∧ x ∉ l := by
  simp only [List.nodup_append, List.nodup_cons, List.not_mem_nil, not_false_eq_true, List.nodup_nil, and_self, true_and, List.mem_singleton, ne_eq]
  constructor
  · rintro ⟨h1, h2⟩; exact ⟨h1, fun hm => h2 x hm x rfl rfl⟩
  · rintro ⟨h1, h2⟩; exact ⟨h1, fun a ha b hb e => h2 (by rw [← hb, ← e]; exact ha)⟩

def DiffRel (p : Nat) (l : List Nat) (w0 : World) (g : Nat) (i : Value) (wr : World) : Prop :=
  ∃ k : Nat, i = .int .i64 k ∧ k ≤ l.length ∧ Seen wr g ((l.take k).map (fred p)).reverse ∧ ((l.take k).map (fred p)).Nodup ∧ Ext w0 wr

end Go.Proofs.Ytgnngifnoaagjaa
