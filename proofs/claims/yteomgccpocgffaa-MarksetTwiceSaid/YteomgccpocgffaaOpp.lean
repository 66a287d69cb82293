/- Two small numbers, opened. -/
import Derived.Test.YteomgccpocgffaaOpo
namespace Go.Proofs.Yteomgccpocgffaa
open Go.ChangeShapes Go.WideShapes Go.ChangeAt Go.RowKit Go.Joins
section
variable {H : Type} {enc : TypeId × Value → H} {W : World} {r : Reach} {b0 : Nat} {v : Value} {d : DataW H} {ps : List MemPlace} {n : Nat} {c : Value} {y : DataW H × List MemPlace}
theorem cell_u8 (h : DataW.trod enc Try.prog W 0 (fun _ => true) true n 5 [c] = some y) : ∃ k : Nat, c = .int .u8 (k : Int) ∧ k < 256 := by
  obtain ⟨z, h1, _, hw⟩ := DataW.trod_int Try.underlying5 h
  simp at h1
  have hb := bounds_u8 hw
  exact ⟨z.toNat, by rw [h1]; congr 1; omega, by omega⟩
theorem open_at2 (hv : Value.okWide Try.prog W r b0 43 v) (h : DataW.Trod enc Try.prog W 0 (fun _ => true) true 43 v d ps) :
    ∃ (n0 n1 : Nat), v = .agg #[.int .u8 (n0 : Int), .int .u8 (n1 : Int)] ∧ n0 < 256 ∧ n1 < 256 := by
  obtain ⟨c0, c1, y0, y1, n, rfl, h0, h1⟩ := open_arr2 Try.underlying43 (by kernel_rfl) (by kernel_rfl) hv h
  obtain ⟨a, rfl, ha⟩ := cell_u8 h0
  obtain ⟨b, rfl, hb⟩ := cell_u8 h1
  exact ⟨a, b, rfl, ha, hb⟩
end
end Go.Proofs.Yteomgccpocgffaa
