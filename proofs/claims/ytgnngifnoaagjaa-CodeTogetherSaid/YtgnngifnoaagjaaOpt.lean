/- Slices of bytes: how long one that was read can be. -/
import Derived.Test.YtgnngifnoaagjaaOpu
namespace Go.Proofs.Ytgnngifnoaagjaa
open Go.ChangeShapes Go.WideShapes Go.ChangeAt Go.RowKit
section
variable {H : Type} {enc : TypeId × Value → H} {W : World} {d : DataW H} {ps : List MemPlace}
set_option maxRecDepth 100000 in
theorem u8s_len {a : Option Addr} {len cap : Nat} (h : DataW.Trod enc Try.prog W 0 (fun _ => true) true 52 (.slice a len cap) d ps) (hw : ∀ n ∈ d.weights Try.prog 52, n ≤ reachBytes) : len ≤ 140737488355328 := by
  obtain ⟨n, hn⟩ := h
  rcases open_ints Try.underlying52 Try.underlying5 (by kernel_rfl) hn with ⟨hcs, _⟩ | ⟨x, l, c, zs, hcs, _, hl, hm, hz, hx, _, _⟩
  · simp [Value.cells] at hcs; omega
  · simp [Value.cells] at hcs
    obtain ⟨_, rfl, rfl⟩ := hcs
    simp only [Prod.mk.injEq] at hx
    have hb : Try.prog.bytesOf 5 = 1 := by kernel_rfl
    have h1 := hw (((lits (H := H) IntKind.u8 (zs.take len)).length + (lits (H := H) IntKind.u8 (zs.drop len)).length) * Try.prog.bytesOf 5 : Nat) (by rw [hx.1]; simp [DataW.weights, Try.underlying52])
    rw [hb] at h1
    have h2 := reachBytes_lt
    have h3 : zs.length = cap := by simpa using hz
    have h4 : (lits (H := H) IntKind.u8 (zs.take len)).length = len := by simp [lits]; omega
    omega
end
end Go.Proofs.Ytgnngifnoaagjaa
