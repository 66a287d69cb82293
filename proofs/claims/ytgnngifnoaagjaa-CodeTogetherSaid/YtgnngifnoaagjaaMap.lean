/- A map[uint64]bool that the call has made: a set of numbers. -/
import Derived.Test.YtgnngifnoaagjaaSlice
import Derived.Maps.Own
import Derived.Maps.Views
namespace Go.Proofs.Ytgnngifnoaagjaa
open Go.RowKit Go.Maps

theorem u64_keyed : Keyed Try.prog 22 := int_keyed Try.underlying22
theorem u64_key (x : Nat) (h : x < 18446744073709551616) : keyOf Try.prog 22 (.int .u64 (x : Int)) = some (.int .u64 (x : Int)) := keyOf_int_mk Try.underlying22 (WalkArith.wf_u64 (by omega))
theorem zero_bool (w : World) : (zeroValue 4).run Try.prog w = .ok (.bool false) w := by kernel_rfl

def Seen (w : World) (b : Nat) (L : List Nat) : Prop :=
  ∃ D : DataW Unit, w.ownsMap Try.prog 22 (plainElem Try.prog 4) b L.length D ∧ IsMap D ∧ ∀ x : Nat, x < 18446744073709551616 → D.atKey (.int .u64 (x : Int)) (.lit (.bool false)) = .lit (.bool (decide (x ∈ L)))
theorem Seen.ext {w w' : World} {b : Nat} {L : List Nat} (h : Seen w b L) (hx : Ext w w') : Seen w' b L := by
  obtain ⟨D, ho, hm, ha⟩ := h
  have hlt := ho.lt
  obtain ⟨es, clock, hb, F, hs, hD⟩ := ho
  exact ⟨D, ⟨es, clock, (Below.block hx b hlt).trans hb, F, hs, hD⟩, hm, ha⟩
theorem Seen.made (w : World) : Seen (w.alloc (.map #[] 0)) w.heap.size [] :=
  ⟨_, World.ownsMap_made _ _ _ _, isMap_empty, fun x _ => by simp [DataW.atKey]⟩
end Go.Proofs.Ytgnngifnoaagjaa
