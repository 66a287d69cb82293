/- From the row's reading of the arguments to the walks' words. -/
import Derived.Test.YtndiaamoapidoaaPost
import Derived.ProofKit
import Derived.OpenShut
import Derived.ShutString
import Derived.ChangeOld
namespace Go.Proofs.Ytndiaamoapidoaa
open Go.RowKit

def IsRow (k : IntKind) (w : World) (a : Option Addr) (len cap : Nat) (zs : List Int) : Prop :=
  (a = none ∧ len = 0 ∧ cap = 0 ∧ zs = []) ∨
  ∃ x, a = some x ∧ len ≤ cap ∧ cap ≤ maxLen ∧ zs.length = cap ∧ (∀ i, i < zs.length → w.cell? (x.add i) = some (.int k (zs.getD i 0))) ∧ ∀ n ∈ zs, (Lit.int k n).wf = true

theorem nat_of_wf {n : Int} (h : (Lit.int .u64 n).wf = true) : ∃ k : Nat, n = (k : Int) ∧ k < 18446744073709551616 := by
  have hb := bounds_u64 h
  exact ⟨n.toNat, by omega, by omega⟩

theorem isRow_rd {w : World} {a : Option Addr} {len cap : Nat} {zs : List Int} (h : IsRow .u64 w a len cap zs) :
    ∃ l : List Nat, len = l.length ∧ Rd w a l ∧ l.length ≤ cap ∧ cap ≤ maxLen ∧ ∀ x ∈ l, x < 18446744073709551616 := by
  rcases h with ⟨rfl, rfl, rfl, rfl⟩ | ⟨x, rfl, h1, h2, h3, h4, h5⟩
  · exact ⟨[], rfl, Rd.nil _ _, Nat.le_refl _, by simp [maxLen], by simp⟩
  · refine ⟨(zs.take len).map Int.toNat, by simp; omega, ?_, by simp; omega, h2, ?_⟩
    · by_cases h0 : len = 0
      · subst h0; exact .inl (by simp)
      · right
        obtain ⟨b, off, spot⟩ := x
        have hc := h4 0 (by omega)
        have hspot : spot = none := by simpa [Addr.add] using World.cell?_spot hc
        subst hspot
        refine ⟨b, off, rfl, fun i hi => ?_⟩
        have hi' : i < len := by simp at hi; omega
        have hci := h4 i (by omega)
        have hadd : (⟨b, off, none⟩ : Addr).add i = ⟨b, off + i, none⟩ := by unfold Addr.add; split <;> simp_all
        rw [hadd] at hci
        rw [hci]
        have hlt : i < zs.length := by omega
        have hmem : zs.getD i 0 ∈ zs := by simp [List.getD, hlt]
        have hb := bounds_u64 (h5 _ hmem)
        simp only [List.getD, List.getElem?_map, List.getElem?_take, if_pos hi']
        simp only [List.getD, List.getElem?_eq_getElem hlt, Option.getD_some] at hb ⊢
        simp only [Option.map_some, Option.getD_some]
        congr 2; omega
    · intro y hy
      simp only [List.mem_map] at hy
      obtain ⟨z, hz, rfl⟩ := hy
      have hb := bounds_u64 (h5 z (List.mem_of_mem_take hz))
      omega

/-- The fact of a region: a slice that reads as l. -/
def RdF (l : List Nat) : Fact := fun w v => ∃ a c, v = .slice a l.length c ∧ l.length ≤ c ∧ Rd w a l
theorem RdF.mono {l : List Nat} : Mono (RdF l) := fun _ _ _ hx ⟨a, c, hv, hc, hr⟩ => ⟨a, c, hv, hc, hr.ext hx⟩
theorem RdF.of {w : World} {base : Nat} {v : Value} {l : List Nat} (h : Own w base v l) : RdF l w v := by
  obtain ⟨a, c, hv, hc, _, hr⟩ := h.form
  exact ⟨a, c, hv, hc, hr⟩
end Go.Proofs.Ytndiaamoapidoaa
