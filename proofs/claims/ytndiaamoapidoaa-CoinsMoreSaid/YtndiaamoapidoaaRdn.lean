/- Short lists that were just laid. -/
import Derived.Test.YtndiaamoapidoaaPost
namespace Go.Proofs.Ytndiaamoapidoaa
theorem Own.formN {w : World} {base : Nat} {v : Value} {l : List Nat} (h : Own w base v l) (n : Nat) (hn : l.length = n) : ∃ a c, v = .slice a n c ∧ n ≤ c ∧ Rd w a l := by
  subst hn
  obtain ⟨a, c, hv, hlc, _, hr⟩ := h.form
  exact ⟨a, c, hv, hlc, hr⟩
theorem Rd.one {w : World} {g x : Nat} (h0 : w.cell? ⟨g, 0, none⟩ = some (.int .u64 (x : Int))) : Rd w (some ⟨g, 0, none⟩) [x] :=
  .inr ⟨g, 0, rfl, fun i hi => by
    have : i = 0 := by simpa using hi
    subst this; simpa using h0⟩
theorem Rd.two {w : World} {g x y : Nat} (h0 : w.cell? ⟨g, 0, none⟩ = some (.int .u64 (x : Int))) (h1 : w.cell? ⟨g, 1, none⟩ = some (.int .u64 (y : Int))) : Rd w (some ⟨g, 0, none⟩) [x, y] :=
  .inr ⟨g, 0, rfl, fun i hi => by
    have h : i = 0 ∨ i = 1 := by simp at hi; omega
    rcases h with rfl | rfl
    · simpa using h0
    · simpa using h1⟩
theorem Rd.three {w : World} {g x y z : Nat} (h0 : w.cell? ⟨g, 0, none⟩ = some (.int .u64 (x : Int))) (h1 : w.cell? ⟨g, 1, none⟩ = some (.int .u64 (y : Int))) (h2 : w.cell? ⟨g, 2, none⟩ = some (.int .u64 (z : Int))) : Rd w (some ⟨g, 0, none⟩) [x, y, z] :=
  .inr ⟨g, 0, rfl, fun i hi => by
    have h : i = 0 ∨ i = 1 ∨ i = 2 := by simp at hi; omega
    rcases h with rfl | rfl | rfl
    · simpa using h0
    · simpa using h1
    · simpa using h2⟩
theorem Rd.four {w : World} {g x y z u : Nat} (h0 : w.cell? ⟨g, 0, none⟩ = some (.int .u64 (x : Int))) (h1 : w.cell? ⟨g, 1, none⟩ = some (.int .u64 (y : Int))) (h2 : w.cell? ⟨g, 2, none⟩ = some (.int .u64 (z : Int))) (h3 : w.cell? ⟨g, 3, none⟩ = some (.int .u64 (u : Int))) : Rd w (some ⟨g, 0, none⟩) [x, y, z, u] :=
  .inr ⟨g, 0, rfl, fun i hi => by
    have h : i = 0 ∨ i = 1 ∨ i = 2 ∨ i = 3 := by simp at hi; omega
    rcases h with rfl | rfl | rfl | rfl
    · simpa using h0
    · simpa using h1
    · simpa using h2
    · simpa using h3⟩
theorem cnew (w : World) (cs : Array Value) (t : TypeId) (g i : Nat) (h : g = w.heap.size) : (w.alloc (.cells cs t)).cell? ⟨g, i, none⟩ = cs[i]? := by
  subst h; simp [World.cell?_alloc_new]
end Go.Proofs.Ytndiaamoapidoaa
