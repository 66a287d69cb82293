/- The case of layer 4, opened. -/
import Derived.Test.YtcnbinjoeilfgaaOpen
import Derived.Lib.SmallJoins
namespace Go.Proofs.Ytcnbinjoeilfgaa
open Go.ChangeShapes Go.WideShapes Go.ChangeAt Go.RowKit Go.Joins
section
variable {H : Type} {enc : TypeId × Value → H} {W : World} {r : Reach} {b0 : Nat} {v : Value} {d : DataW H} {ps : List MemPlace}
theorem open_case (hv : Value.okWide Try.prog W r b0 38 v) (h : DataW.Trod enc Try.prog W 0 (fun _ => true) true 38 v d ps) :
    ∃ (p : Nat) (l : List Nat) (s : Nat) (n : Int) (a : Option Addr) (c : Nat), v = .agg #[.int .u64 p, .slice a l.length c, .int .u64 s, .int .i64 n] ∧ Rd W a l ∧ l.length ≤ c ∧ n ≤ 9223372036854775807 ∧ -9223372036854775808 ≤ n := by
  obtain ⟨v0, v1, v2, v3, y0, y1, y2, y3, m, rfl, _, _, h0, h1, h2, h3⟩ := open_agg4 Try.underlying38 (by kernel_rfl) (by kernel_rfl) hv h
  obtain ⟨z0, e0, _, w0⟩ := DataW.trod_int Try.underlying22 h0
  obtain ⟨a, c, l, rfl, ha, hc, _, _⟩ := row_u64s h1
  obtain ⟨z2, e2, _, w2⟩ := DataW.trod_int Try.underlying22 h2
  obtain ⟨z3, e3, _, w3⟩ := DataW.trod_int Try.underlying3 h3
  simp at e0 e2 e3
  subst e0 e2 e3
  obtain ⟨p, rfl, _⟩ := nat_of_wf w0
  obtain ⟨s, rfl, _⟩ := nat_of_wf w2
  have hb := bounds_i64 w3
  exact ⟨p, l, s, z3, a, c, rfl, ha, hc, by omega, by omega⟩
end
end Go.Proofs.Ytcnbinjoeilfgaa
