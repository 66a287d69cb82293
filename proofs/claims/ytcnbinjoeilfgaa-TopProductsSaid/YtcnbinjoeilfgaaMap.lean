/- A map[uint64]bool that the call has made: a set of numbers. -/
import Derived.Test.YtcnbinjoeilfgaaSlice
import Derived.Maps.Own
import Derived.Maps.Views
namespace Go.Proofs.Ytcnbinjoeilfgaa
open Go.RowKit Go.Maps

theorem u64_keyed : Keyed Try.prog 22 := int_keyed Try.underlying22
theorem u64_key (x : Nat) (h : x < 18446744073709551616) : keyOf Try.prog 22 (.int .u64 (x : Int)) = some (.int .u64 (x : Int)) := keyOf_int_mk Try.underlying22 (WalkArith.wf_u64 (by omega))
theorem zero_bool (w : World) : (zeroValue 4).run Try.prog w = .ok (.bool false) w := by kernel_rfl

def Seen (w : World) (b : Nat) (L : List Nat) : Prop :=
  ∃ D : DataW Unit, w.ownsMap Try.prog 22 (plainElem Try.prog 4) b L.length D ∧ IsMap D ∧ ∀ x : Nat, x < 18446744073709551616 → D.atKey (.int .u64 (x : Int)) (.lit (.bool false)) = .lit (.bool (decide (x ∈ L)))
theorem Seen.ext {w w' : World} {b : Nat} {L : List Nat} (h : Seen w b L) (hx : Ext w w') : Seen w' b L := by
  obtain ⟨D, ho, hm, ha⟩ := h
  have hlt := ho.lt
  obtain ⟨es, clock, hb, F, hs, hD⟩ := ho
  exact ⟨D, ⟨es, clock, (Below.block hx b hlt).trans hb, F, hs, hD⟩, hm, ha⟩
theorem Seen.lookup {w : World} {b : Nat} {L : List Nat} (h : Seen w b L) (x : Nat) (hx : x < 18446744073709551616) :
    (Instr.lookup 95 (.map (some b)) (.int .u64 (x : Int)) false).run Try.prog w = .ok (.bool (decide (x ∈ L))) w := by
  obtain ⟨D, ho, hm, ha⟩ := h
  obtain ⟨v, ps, hrun, hv⟩ := ho.lookup u64_keyed (t := 95) (e := 4) Try.underlying95 (zero_bool w) (plainElem_bool Try.underlying4 false) (u64_key x hx)
  rw [ha x hx] at hv
  rw [hrun]
  unfold plainElem at hv
  rw [Try.underlying4] at hv
  cases v <;> simp at hv
  rw [hv.1]
theorem Seen.update {w : World} {b : Nat} {L : List Nat} (h : Seen w b L) (x : Nat) (hx : x < 18446744073709551616) (hL : L.length ≤ 1000000000) :
    ∃ w', (Instr.mapUpdate 95 (.map (some b)) (.int .u64 (x : Int)) (.bool true)).run Try.prog w = .ok () w' ∧ Seen w' b (x :: L) ∧ w.grownBy w' (some b) := by
  obtain ⟨D, ho, hm, ha⟩ := h
  obtain ⟨w', hrun, ho', hg⟩ := ho.update u64_keyed (t := 95) (e := 4) Try.underlying95 (by simp [maxLen]; omega) (u64_key x hx) (plainElem_bool Try.underlying4 true)
  refine ⟨w', hrun, ⟨_, ho', ?_, fun y hy => ?_⟩, hg⟩
  · obtain ⟨es, rfl⟩ := hm; exact ⟨_, rfl⟩
  · by_cases hyx : y = x
    · subst hyx
      rw [atKey_put_same hm (k := .int .u64 (y : Int)) trivial]
      simp
    · rw [atKey_put_other (by simp; omega), ha y hy]
      simp [hyx]
theorem run_makeMap_hint (n : Nat) (w : World) : (Instr.makeMap 95 (some (.int .i64 (n : Int)))).run Try.prog w = .ok (.map (some w.heap.size)) (w.alloc (.map #[] 0)) := by
  simp [Instr.makeMap, run_underlying Try.underlying95]; rfl
theorem Seen.made (w : World) : Seen (w.alloc (.map #[] 0)) w.heap.size [] :=
  ⟨_, World.ownsMap_made _ _ _ _, isMap_empty, fun x _ => by simp [DataW.atKey]⟩
end Go.Proofs.Ytcnbinjoeilfgaa
