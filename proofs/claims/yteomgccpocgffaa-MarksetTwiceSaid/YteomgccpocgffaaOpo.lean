/- Arguments of layer 38, opened: operations, two small numbers. -/
import Derived.Test.YteomgccpocgffaaOpen
import Derived.Test.YteomgccpocgffaaMk6
import Derived.Lib.SmallJoins
namespace Go.Proofs.Yteomgccpocgffaa
open Go.ChangeShapes Go.WideShapes Go.ChangeAt Go.RowKit Go.Joins
section
variable {H : Type} {enc : TypeId × Value → H} {W : World} {r : Reach} {b0 : Nat} {v : Value} {d : DataW H} {ps : List MemPlace} {n : Nat} {cs : List Value} {y : DataW H × List MemPlace}
set_option maxRecDepth 100000 in
theorem row_op (h : DataW.trod enc Try.prog W 0 (fun _ => true) true n 48 cs = some y) :
    ∃ (B : Bool) (a : Option Addr) (l : List Nat) (c : Nat), cs = [.bool B, .slice a l.length c] ∧ Rd W a l ∧ ∀ x ∈ l, x < 18446744073709551616 := by
  obtain ⟨y0, y1, m, _, hlen, g0, g1⟩ := trod_struct2 Try.underlying48 h
  have hC : Try.prog.cellsOf 48 = 2 := by kernel_rfl
  rw [hC] at hlen
  match cs, hlen with
  | [c0, c1], _ =>
    have k1 : Try.prog.cellsOf 27 = 1 := by kernel_rfl
    have k2 : Try.prog.cellsOf 4 = 1 := by kernel_rfl
    simp only [k1, k2] at g0 g1
    obtain ⟨B, hB, _⟩ := DataW.trod_bool Try.underlying4 g0
    obtain ⟨a, ca, l, hl, ra, _, _, hb⟩ := row_u64s (c := c1) (by simpa using g1)
    simp at hB
    exact ⟨B, a, l, ca, by rw [hB, hl], ra, hb⟩
theorem open_ops (hv : Value.okWide Try.prog W r b0 22 v) (h : DataW.Trod enc Try.prog W 0 (fun _ => true) true 22 v d ps) :
    ∃ (a : Option Addr) (c : Nat) (os : OpL), v = .slice a os.length c ∧ RdO W a os ∧ os.length ≤ 9223372036854775807 := by
  obtain ⟨a, len, cap, rfl⟩ := okWide_slice Try.underlying22 hv
  obtain ⟨n, hn⟩ := h
  rcases Go.Deep.open_slice Try.underlying22 hn with ⟨hcs, _⟩ | ⟨ad, len', cap', m, n', D, Pl, hcs, _, hl, hcap, hm, _, hx⟩
  · simp [Value.cells] at hcs
    obtain ⟨rfl, rfl, rfl⟩ := hcs
    exact ⟨none, 0, [], rfl, .inl rfl, by simp⟩
  · simp [Value.cells] at hcs
    obtain ⟨rfl, rfl, rfl⟩ := hcs
    have hC : Try.prog.cellsOf 48 = 2 := by kernel_rfl
    rw [hC] at hx
    simp only [if_true] at hm
    subst hm
    obtain ⟨F, hF⟩ := Go.Deep.choose_lt (α := Bool × List Nat) (n := len) (p := fun i o => W.cell? (ad.add (i * 2)) = some (.bool o.1) ∧ ∃ ar cr, W.cell? ((ad.add (i * 2)).add 1) = some (.slice ar o.2.length cr) ∧ Rd W ar o.2 ∧ ∀ x ∈ o.2, x < 18446744073709551616) (fun i hi => by
      obtain ⟨cs', h1, h2⟩ := hx i (by omega)
      obtain ⟨B, ar, l, c, rfl, hr, hb⟩ := row_op h2
      obtain ⟨_, _, hc⟩ := World.cells?_some h1
      have e0 := hc 0 (by omega)
      have e1 := hc 1 (by omega)
      refine ⟨(B, l), ?_, ar, c, by simpa using e1, hr, hb⟩
      have : (ad.add (i * 2)).add 0 = ad.add (i * 2) := by unfold Addr.add; split <;> simp_all
      rw [this] at e0
      simpa using e0)
    refine ⟨some ad, m, (List.range len).map F, by simp, ?_, by simp; unfold maxLen at hcap; omega⟩
    by_cases h0 : len = 0
    · left; subst h0; rfl
    · right
      obtain ⟨b, off, spot⟩ := ad
      have hc0 := (hF 0 (by omega)).1
      have hspot : spot = none := by simpa [Addr.add] using World.cell?_spot hc0
      subst hspot
      have hadd : ∀ i, (⟨b, off, none⟩ : Addr).add i = ⟨b, off + i, none⟩ := fun i => by unfold Addr.add; split <;> simp_all
      refine ⟨b, off, rfl, fun i hi => ?_⟩
      have hi' : i < len := by simpa using hi
      have e : ((List.range len).map F).getD i (false, []) = F i := by simp [List.getD, hi']
      rw [e]
      obtain ⟨k1, ar, cr, k2, k3, k4⟩ := hF i hi'
      rw [hadd] at k1 k2
      have hadd2 : (⟨b, off + i * 2, none⟩ : Addr).add 1 = ⟨b, off + i * 2 + 1, none⟩ := by unfold Addr.add; split <;> simp_all
      rw [hadd2] at k2
      exact ⟨k1, ar, cr, k2, k3, k4⟩
end
end Go.Proofs.Yteomgccpocgffaa
