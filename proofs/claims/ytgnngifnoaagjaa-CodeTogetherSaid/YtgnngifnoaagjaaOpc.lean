/- Arguments of layer 6, opened: a code. -/
import Derived.Test.YtgnngifnoaagjaaGS
import Derived.Lib.SmallJoins
namespace Go.Proofs.Ytgnngifnoaagjaa
open Go.ChangeShapes Go.WideShapes Go.ChangeAt Go.RowKit Go.Joins
section
variable {H : Type} {enc : TypeId × Value → H} {W : World} {r : Reach} {b0 : Nat} {v : Value} {d : DataW H} {ps : List MemPlace} {n : Nat} {c : Value} {y : DataW H × List MemPlace}

theorem cell_int {P : Program} {t : TypeId} {k : IntKind} (ht : P.underlying t = some (.int k)) (h : DataW.trod enc P W 0 (fun _ => true) true n t [c] = some y) : ∃ z, c = .int k z ∧ (Lit.int k z).wf = true := by
  obtain ⟨z, h1, _, hw⟩ := DataW.trod_int ht h
  simp at h1
  exact ⟨z, h1, hw⟩
set_option maxRecDepth 100000 in
theorem open_code (hv : Value.okWide Try.prog W r b0 24 v) (h : DataW.Trod enc Try.prog W 0 (fun _ => true) true 24 v d ps) :
    ∃ (p : Nat) (n k : Int), v = .agg #[.int .u64 p, .int .i64 n, .int .i64 k] ∧ n ≤ 9223372036854775807 ∧ -9223372036854775808 ≤ n := by
  obtain ⟨v0, v1, v2, y0, y1, y2, m, rfl, _, _, g0, g1, g2⟩ := open_agg3 Try.underlying24 (by kernel_rfl) (by kernel_rfl) hv h
  obtain ⟨z0, rfl, w0⟩ := cell_int Try.underlying22 g0
  obtain ⟨z1, rfl, w1⟩ := cell_int Try.underlying3 g1
  obtain ⟨z2, rfl, w2⟩ := cell_int Try.underlying3 g2
  obtain ⟨p, rfl, _⟩ := nat_of_wf w0
  have b1 := bounds_i64 w1
  exact ⟨p, z1, z2, rfl, by omega, by omega⟩
theorem array6 {α : Type} {cs : Array α} (h : cs.size = 6) : ∃ c0 c1 c2 c3 c4 c5, cs = #[c0, c1, c2, c3, c4, c5] := by
  obtain ⟨l⟩ := cs
  match l, h with
  | [c0, c1, c2, c3, c4, c5], _ => exact ⟨c0, c1, c2, c3, c4, c5, rfl⟩
set_option maxRecDepth 100000 in
theorem open_word (hv : Value.okWide Try.prog W r b0 45 v) (h : DataW.Trod enc Try.prog W 0 (fun _ => true) true 45 v d ps) :
    ∃ (p : Nat) (n k e : Int) (a b : Option Addr) (l m : List Nat) (c f : Nat), v = .agg #[.int .u64 p, .int .i64 n, .int .i64 k, .slice a l.length c, .slice b m.length f, .int .i64 e] ∧ Rd W a l ∧ Rd W b m ∧ n ≤ 9223372036854775807 ∧ -9223372036854775808 ≤ n ∧ e ≤ 9223372036854775807 ∧ -9223372036854775808 ≤ e ∧ l.length ≤ 9223372036854775807 ∧ m.length ≤ 9223372036854775807 := by
  obtain ⟨cs, rfl, hsz⟩ := okWide_struct Try.underlying45 hv
  have hC : Try.prog.cellsOf 45 = 6 := by kernel_rfl
  obtain ⟨c0, c1, c2, c3, c4, c5, rfl⟩ := array6 (hsz.trans hC)
  obtain ⟨fuel, hf⟩ := h
  obtain ⟨y0, y1, y2, y3, m, _, _, g0, g1, g2, g3⟩ := trod_struct4 Try.underlying45 hf
  have k0 : Try.prog.cellsOf 24 = 3 := by kernel_rfl
  have k1 : Try.prog.cellsOf 25 = 1 := by kernel_rfl
  have k2 : Try.prog.cellsOf 3 = 1 := by kernel_rfl
  have k3 : Try.prog.cellsOf 22 = 1 := by kernel_rfl
  simp only [k0, k1, k2, Value.cells] at g0 g1 g2 g3
  obtain ⟨x0, x1, x2, m2, _, _, q0, q1, q2⟩ := Go.Deep.trod_struct3 Try.underlying24 g0
  simp only [k2, k3] at q0 q1 q2
  obtain ⟨z0, rfl, w0⟩ := cell_int Try.underlying22 (by simpa using q0)
  obtain ⟨z1, rfl, w1⟩ := cell_int Try.underlying3 (by simpa using q1)
  obtain ⟨z2, rfl, w2⟩ := cell_int Try.underlying3 (by simpa using q2)
  obtain ⟨z3, rfl, w3⟩ := cell_int Try.underlying3 (by simpa using g3)
  obtain ⟨p, rfl, _⟩ := nat_of_wf w0
  obtain ⟨a, ca, l, rfl, ra, l1, l2, _⟩ := row_u64s (c := c3) (by simpa using g1)
  obtain ⟨b, cb, l', rfl, rb, l3, l4, _⟩ := row_u64s (c := c4) (by simpa using g2)
  have b1 := bounds_i64 w1
  have b3 := bounds_i64 w3
  unfold maxLen at l2 l4
  exact ⟨p, z1, z2, z3, a, b, l, l', ca, cb, rfl, ra, rb, by omega, by omega, by omega, by omega, by omega, by omega⟩
end
end Go.Proofs.Ytgnngifnoaagjaa
