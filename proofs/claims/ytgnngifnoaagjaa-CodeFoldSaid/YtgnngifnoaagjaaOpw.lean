/- Arguments of layer 6, opened: rows. -/
import Derived.Test.YtgnngifnoaagjaaOpc
import Derived.Test.YtgnngifnoaagjaaSlV
import Derived.Deep.Slices
namespace Go.Proofs.Ytgnngifnoaagjaa
open Go.ChangeShapes Go.WideShapes Go.ChangeAt Go.RowKit Go.Joins
section
variable {H : Type} {enc : TypeId × Value → H} {W : World} {r : Reach} {b0 : Nat} {v : Value} {d : DataW H} {ps : List MemPlace} {n : Nat} {c : Value} {y : DataW H × List MemPlace}
theorem choose_lists {P : Nat → SlC × List Nat → Prop} : ∀ n, (∀ i, i < n → ∃ y, P i y) → ∃ Y : List (SlC × List Nat), Y.length = n ∧ ∀ i, i < n → P i (Y.getD i ((none, 0, 0), []))
  | 0, _ => ⟨[], rfl, fun i hi => absurd hi (by omega)⟩
  | n + 1, h => by
    obtain ⟨Y, h1, h2⟩ := choose_lists n (fun i hi => h i (by omega))
    obtain ⟨y, hy⟩ := h n (by omega)
    refine ⟨Y ++ [y], by simp [h1], fun i hi => ?_⟩
    rw [List.getD_eq_getElem?_getD]
    by_cases hlt : i < n
    · rw [List.getElem?_append_left (by omega), ← List.getD_eq_getElem?_getD]; exact h2 i hlt
    · have : i = n := by omega
      subst this
      rw [List.getElem?_append_right (by omega), h1]; simpa using hy
set_option maxRecDepth 100000 in
theorem open_rows (hv : Value.okWide Try.prog W r b0 56 v) (h : DataW.Trod enc Try.prog W 0 (fun _ => true) true 56 v d ps) :
    ∃ (a : Option Addr) (cap : Nat) (L : List SlC) (rows : List (List Nat)), v = .slice a rows.length cap ∧ RdV W a L ∧ Rows2 W L rows ∧ rows.length ≤ 9223372036854775807 := by
  obtain ⟨a, len, cap, rfl⟩ := okWide_slice Try.underlying56 hv
  obtain ⟨fuel, hf⟩ := h
  rcases Go.Deep.open_slice1 Try.underlying56 (by kernel_rfl) hf with ⟨h0, _⟩ | ⟨x, len', cap', m, n, V, D, Pl, h0, _, hl, hm, hmm, _, hx⟩
  · simp [Value.cells] at h0
    obtain ⟨rfl, rfl, rfl⟩ := h0
    exact ⟨none, 0, [], [], rfl, .inl rfl, Rows2.nil _, by simp⟩
  · simp [Value.cells] at h0
    obtain ⟨rfl, rfl, rfl⟩ := h0
    obtain ⟨Y, hY1, hY2⟩ := choose_lists (P := fun i (y : SlC × List Nat) => W.cell? (x.add i) = some (celV y.1) ∧ y.1.2.1 = y.2.length ∧ Rd W y.1.1 y.2) len (fun i hi => by
      obtain ⟨q1, q2⟩ := hx i (by rw [hmm]; split <;> omega)
      obtain ⟨a, ca, l, e, ra, _⟩ := row_u64s q2
      exact ⟨((a, l.length, ca), l), by rw [q1, e]; rfl, rfl, ra⟩)
    have hg : ∀ i, i < len → (Y.map (·.1)).getD i (none, 0, 0) = (Y.getD i ((none, 0, 0), [])).1 ∧ (Y.map (·.2)).getD i [] = (Y.getD i ((none, 0, 0), [])).2 := fun i hi => by
      simp [List.getD, List.getElem?_eq_getElem (show i < Y.length by omega)]
    unfold maxLen at hm
    refine ⟨some x, cap, Y.map (·.1), Y.map (·.2), by rw [List.length_map, hY1], ?_, ⟨by simp, fun i hi => ?_⟩, by rw [List.length_map]; omega⟩
    · by_cases hz : len = 0
      · left
        exact List.eq_nil_of_length_eq_zero (by rw [List.length_map]; omega)
      · right
        obtain ⟨b, off, spot⟩ := x
        have hc := (hY2 0 (by omega)).1
        have hspot : spot = none := by simpa [Addr.add] using World.cell?_spot hc
        subst hspot
        refine ⟨b, off, rfl, fun i hi => ?_⟩
        rw [List.length_map, hY1] at hi
        have hadd : (⟨b, off, none⟩ : Addr).add i = ⟨b, off + i, none⟩ := by unfold Addr.add; split <;> simp_all
        have := (hY2 i hi).1
        rw [hadd] at this
        rw [this, (hg i hi).1]; rfl
    · rw [List.length_map, hY1] at hi
      rw [(hg i hi).1, (hg i hi).2]
      exact (hY2 i hi).2
end
end Go.Proofs.Ytgnngifnoaagjaa
