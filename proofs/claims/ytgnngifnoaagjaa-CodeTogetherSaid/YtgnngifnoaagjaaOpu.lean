/- Slices of bytes: read, opened. -/
import Derived.Test.YtgnngifnoaagjaaOpc
namespace Go.Proofs.Ytgnngifnoaagjaa
open Go.ChangeShapes Go.WideShapes Go.ChangeAt Go.RowKit
/-- A slice at address a reads as the bytes l. -/
def RdB (w : World) (a : Option Addr) (l : List Nat) : Prop :=
  l = [] ∨ ∃ b off, a = some ⟨b, off, none⟩ ∧ ∀ i, i < l.length → w.cell? ⟨b, off + i, none⟩ = some (.int .u8 ((l.getD i 0 : Nat) : Int))
theorem RdB.ext {w w' : World} {a : Option Addr} {l : List Nat} (h : RdB w a l) (hx : Ext w w') : RdB w' a l := by
  rcases h with h | ⟨b, off, ha, hc⟩
  · exact .inl h
  · exact .inr ⟨b, off, ha, fun i hi => hx.cell (hc i hi)⟩
theorem RdB.at {w : World} {a : Option Addr} {l : List Nat} (h : RdB w a l) (hl : 0 < l.length) : ∃ b off, a = some ⟨b, off, none⟩ ∧ ∀ i, i < l.length → w.cell? ⟨b, off + i, none⟩ = some (.int .u8 ((l.getD i 0 : Nat) : Int)) := by
  rcases h with h | h
  · subst h; simp at hl
  · exact h
section
variable {H : Type} {enc : TypeId × Value → H} {W : World} {r : Reach} {b0 : Nat} {v : Value} {d : DataW H} {ps : List MemPlace} {n : Nat} {c : Value} {y : DataW H × List MemPlace}
theorem isRow_rdB {w : World} {a : Option Addr} {len cap : Nat} {zs : List Int} (h : IsRow .u8 w a len cap zs) :
    ∃ l : List Nat, len = l.length ∧ RdB w a l ∧ l.length ≤ cap ∧ cap ≤ maxLen ∧ ∀ i, i < l.length → l.getD i 0 < 256 := by
  rcases h with ⟨rfl, rfl, rfl, rfl⟩ | ⟨x, rfl, h1, h2, h3, h4, h5⟩
  · exact ⟨[], rfl, .inl rfl, Nat.le_refl _, by simp [maxLen], fun i hi => absurd hi (by simp)⟩
  · have hwf : ∀ i, i < cap → ∃ q : Nat, zs.getD i 0 = (q : Int) ∧ q < 256 := fun i hi => by
      have hm : zs.getD i 0 ∈ zs := by
        rw [List.getD_eq_getElem?_getD, List.getElem?_eq_getElem (by omega)]; exact List.getElem_mem _
      have := h5 _ hm
      have hb := bounds_u8 this
      exact ⟨(zs.getD i 0).toNat, by omega, by omega⟩
    refine ⟨(zs.take len).map Int.toNat, by simp; omega, ?_, by simp; omega, h2, fun i hi => ?_⟩
    · by_cases h0 : len = 0
      · subst h0; exact .inl (by simp)
      · right
        obtain ⟨b, off, spot⟩ := x
        have hc := h4 0 (by omega)
        have hspot : spot = none := by simpa [Addr.add] using World.cell?_spot hc
        subst hspot
        refine ⟨b, off, rfl, fun i hi => ?_⟩
        have hi' : i < len := by simp at hi; omega
        have hci := h4 i (by omega)
        have hadd : (⟨b, off, none⟩ : Addr).add i = ⟨b, off + i, none⟩ := by unfold Addr.add; split <;> simp_all
        rw [hadd] at hci
        obtain ⟨q, e, _⟩ := hwf i (by omega)
        rw [hci]
        have hz : zs.getD i 0 = zs[i]'(by omega) := by simp [List.getD, List.getElem?_eq_getElem (show i < zs.length by omega)]
        have : ((zs.take len).map Int.toNat).getD i 0 = q := by
          simp [List.getD, hi', List.getElem?_eq_getElem (show i < zs.length by omega)]
          rw [← hz, e]; simp
        rw [this, e]
    · have hi' : i < len := by simp at hi; omega
      obtain ⟨q, e, hq⟩ := hwf i (by omega)
      have hz : zs.getD i 0 = zs[i]'(by omega) := by simp [List.getD, List.getElem?_eq_getElem (show i < zs.length by omega)]
      have : ((zs.take len).map Int.toNat).getD i 0 = q := by
        simp [List.getD, hi', List.getElem?_eq_getElem (show i < zs.length by omega)]
        rw [← hz, e]; simp
      omega
set_option maxRecDepth 100000 in
theorem open_u8s (hv : Value.okWide Try.prog W r b0 52 v) (h : DataW.Trod enc Try.prog W 0 (fun _ => true) true 52 v d ps) :
    ∃ (a : Option Addr) (cap : Nat) (l : List Nat), v = .slice a l.length cap ∧ RdB W a l ∧ l.length ≤ cap ∧ cap ≤ maxLen ∧ ∀ i, i < l.length → l.getD i 0 < 256 := by
  obtain ⟨a, len, cap, rfl⟩ := okWide_slice Try.underlying52 hv
  obtain ⟨n, hn⟩ := h
  obtain ⟨a, len, cap, zs, hc, hw⟩ : ∃ (a' : Option Addr) (len' cap' : Nat) (zs : List Int), Value.slice a len cap = .slice a' len' cap' ∧ IsRow .u8 W a' len' cap' zs := by
    rcases open_ints Try.underlying52 Try.underlying5 (by kernel_rfl) hn with ⟨hcs, _⟩ | ⟨x, l, c, zs, hcs, _, hl, hm, hz, _, hcell, hwz⟩
    · simp [Value.cells] at hcs
      exact ⟨none, 0, 0, [], by rw [hcs.1, hcs.2.1, hcs.2.2], .inl ⟨rfl, rfl, rfl, rfl⟩⟩
    · simp [Value.cells] at hcs
      exact ⟨some x, l, c, zs, by rw [hcs.1, hcs.2.1, hcs.2.2], .inr ⟨_, rfl, hl, hm, by simpa using hz, hcell, hwz⟩⟩
  obtain ⟨l, rfl, h1, h2, h3, h4⟩ := isRow_rdB hw
  exact ⟨a, cap, l, hc, h1, h2, h3, h4⟩
end
end Go.Proofs.Ytgnngifnoaagjaa
