/- Slices of int and pairs of uint64, opened. -/
import Derived.Test.YtndiaamoapidoaaOpen
import Derived.Test.YtndiaamoapidoaaSlI
namespace Go.Proofs.Ytndiaamoapidoaa
open Go.ChangeShapes Go.WideShapes Go.ChangeAt Go.RowKit
section
variable {H : Type} {enc : TypeId × Value → H} {W : World} {r : Reach} {b0 : Nat} {v : Value} {d : DataW H} {ps : List MemPlace} {n : Nat} {c : Value} {y : DataW H × List MemPlace}

theorem isRow_rdI {w : World} {a : Option Addr} {len cap : Nat} {zs : List Int} (h : IsRow .i64 w a len cap zs) :
    ∃ l : List Int, len = l.length ∧ RdI w a l ∧ l.length ≤ cap ∧ cap ≤ maxLen := by
  rcases h with ⟨rfl, rfl, rfl, rfl⟩ | ⟨x, rfl, h1, h2, h3, h4, h5⟩
  · exact ⟨[], rfl, RdI.nil _ _, Nat.le_refl _, by simp [maxLen]⟩
  · refine ⟨zs.take len, by simp; omega, ?_, by simp; omega, h2⟩
    by_cases h0 : len = 0
    · subst h0; exact .inl (by simp)
    · right
      obtain ⟨b, off, spot⟩ := x
      have hc := h4 0 (by omega)
      have hspot : spot = none := by simpa [Addr.add] using World.cell?_spot hc
      subst hspot
      refine ⟨b, off, rfl, fun i hi => ?_⟩
      have hi' : i < len := by simp at hi; omega
      have hci := h4 i (by omega)
      have hadd : (⟨b, off, none⟩ : Addr).add i = ⟨b, off + i, none⟩ := by unfold Addr.add; split <;> simp_all
      rw [hadd] at hci
      rw [hci]
      simp [List.getD, hi']
set_option maxRecDepth 100000 in
theorem open_i64s (hv : Value.okWide Try.prog W r b0 25 v) (h : DataW.Trod enc Try.prog W 0 (fun _ => true) true 25 v d ps) :
    ∃ (a : Option Addr) (cap : Nat) (l : List Int), v = .slice a l.length cap ∧ RdI W a l ∧ l.length ≤ cap ∧ cap ≤ maxLen := by
  obtain ⟨a, len, cap, rfl⟩ := okWide_slice Try.underlying25 hv
  obtain ⟨n, hn⟩ := h
  obtain ⟨a, len, cap, zs, hc, hw⟩ : ∃ (a' : Option Addr) (len' cap' : Nat) (zs : List Int), Value.slice a len cap = .slice a' len' cap' ∧ IsRow .i64 W a' len' cap' zs := by
    rcases open_ints Try.underlying25 Try.underlying3 (by kernel_rfl) hn with ⟨hcs, _⟩ | ⟨x, l, c, zs, hcs, _, hl, hm, hz, _, hcell, hwz⟩
    · simp [Value.cells] at hcs
      exact ⟨none, 0, 0, [], by rw [hcs.1, hcs.2.1, hcs.2.2], .inl ⟨rfl, rfl, rfl, rfl⟩⟩
    · simp [Value.cells] at hcs
      exact ⟨some x, l, c, zs, by rw [hcs.1, hcs.2.1, hcs.2.2], .inr ⟨_, rfl, hl, hm, by simpa using hz, hcell, hwz⟩⟩
  obtain ⟨l, rfl, h1, h2, h3⟩ := isRow_rdI hw
  exact ⟨a, cap, l, hc, h1, h2, h3⟩
theorem cell_u64 (h : DataW.trod enc Try.prog W 0 (fun _ => true) true n 23 [c] = some y) : ∃ k : Nat, c = .int .u64 (k : Int) ∧ k < 18446744073709551616 := by
  obtain ⟨z, h1, _, hw⟩ := DataW.trod_int Try.underlying23 h
  simp at h1
  have hb := bounds_u64 hw
  exact ⟨z.toNat, by rw [h1]; congr 1; omega, by omega⟩
theorem open_u2 (hv : Value.okWide Try.prog W r b0 39 v) (h : DataW.Trod enc Try.prog W 0 (fun _ => true) true 39 v d ps) :
    ∃ (n0 n1 : Nat), v = .agg #[.int .u64 (n0 : Int), .int .u64 (n1 : Int)] ∧ n0 < 18446744073709551616 ∧ n1 < 18446744073709551616 := by
  obtain ⟨c0, c1, y0, y1, n, rfl, h0, h1⟩ := open_arr2 Try.underlying39 (by kernel_rfl) (by kernel_rfl) hv h
  obtain ⟨a, rfl, ha⟩ := cell_u64 h0
  obtain ⟨b, rfl, hb⟩ := cell_u64 h1
  exact ⟨a, b, rfl, ha, hb⟩
end
end Go.Proofs.Ytndiaamoapidoaa
