/- Arguments of many shapes, opened. -/
import Derived.Test.YtndiaamoapidoaaLaw
import Derived.SizedLaws
namespace Go.Proofs.Ytndiaamoapidoaa
open Go.ChangeShapes Go.WideShapes Go.ChangeAt Go.RowKit
section
variable {H : Type} {enc : TypeId × Value → H} {W : World} {r : Reach} {b0 : Nat} {v : Value} {d : DataW H} {ps : List MemPlace} {n : Nat} {c : Value} {y : DataW H × List MemPlace}

set_option maxRecDepth 100000 in
theorem row_u64s (h : DataW.trod enc Try.prog W 0 (fun _ => true) true n 22 [c] = some y) :
    ∃ (a : Option Addr) (cap : Nat) (l : List Nat), c = .slice a l.length cap ∧ Rd W a l ∧ l.length ≤ cap ∧ cap ≤ maxLen ∧ ∀ x ∈ l, x < 18446744073709551616 := by
  obtain ⟨a, len, cap, zs, rfl, hw⟩ : ∃ (a : Option Addr) (len cap : Nat) (zs : List Int), c = .slice a len cap ∧ IsRow .u64 W a len cap zs := by
    rcases open_ints Try.underlying22 Try.underlying23 (by kernel_rfl) h with ⟨hcs, _⟩ | ⟨x, l, c, zs, hcs, _, hl, hm, hz, _, hcell, hwz⟩
    · simp at hcs
      exact ⟨none, 0, 0, [], hcs, .inl ⟨rfl, rfl, rfl, rfl⟩⟩
    · simp at hcs
      exact ⟨some x, l, c, zs, hcs, .inr ⟨_, rfl, hl, hm, by simpa using hz, hcell, hwz⟩⟩
  obtain ⟨l, rfl, h1, h2, h3, h4⟩ := isRow_rd hw
  exact ⟨a, cap, l, rfl, h1, h2, h3, h4⟩
set_option maxRecDepth 100000 in
theorem open_u64s (hv : Value.okWide Try.prog W r b0 22 v) (h : DataW.Trod enc Try.prog W 0 (fun _ => true) true 22 v d ps) :
    ∃ (a : Option Addr) (cap : Nat) (l : List Nat), v = .slice a l.length cap ∧ Rd W a l ∧ l.length ≤ cap ∧ cap ≤ maxLen ∧ ∀ x ∈ l, x < 18446744073709551616 := by
  obtain ⟨a, len, cap, rfl⟩ := okWide_slice Try.underlying22 hv
  obtain ⟨n, hn⟩ := h
  exact row_u64s hn
set_option maxRecDepth 100000 in
/-- The reach: how long a slice that was read can be. -/
theorem u64s_len {a : Option Addr} {len cap : Nat} (h : DataW.Trod enc Try.prog W 0 (fun _ => true) true 22 (.slice a len cap) d ps) (hw : ∀ n ∈ d.weights Try.prog 22, n ≤ reachBytes) : len ≤ 140737488355328 := by
  obtain ⟨n, hn⟩ := h
  rcases open_ints Try.underlying22 Try.underlying23 (by kernel_rfl) hn with ⟨hcs, _⟩ | ⟨x, l, c, zs, hcs, _, hl, hm, hz, hx, _, _⟩
  · simp [Value.cells] at hcs; omega
  · simp [Value.cells] at hcs
    obtain ⟨_, rfl, rfl⟩ := hcs
    simp only [Prod.mk.injEq] at hx
    have hb : Try.prog.bytesOf 23 = 8 := by kernel_rfl
    have h1 := hw (((lits (H := H) IntKind.u64 (zs.take len)).length + (lits (H := H) IntKind.u64 (zs.drop len)).length) * Try.prog.bytesOf 23 : Nat) (by rw [hx.1]; simp [DataW.weights, Try.underlying22])
    rw [hb] at h1
    have h2 := reachBytes_lt
    have h3 : zs.length = cap := by simpa using hz
    have h4 : (lits (H := H) IntKind.u64 (zs.take len)).length = len := by simp [lits]; omega
    omega
theorem open_arr2 {P : Program} {t e : TypeId} (hu : P.underlying t = some (.array 2 e)) (h1 : P.cellsOf e = 1) (h2 : P.cellsOf t = 2) (hv : Value.okWide P W r b0 t v) (hd : DataW.Trod enc P W 0 (fun _ => true) true t v d ps) :
    ∃ c0 c1 y0 y1 n, v = .agg #[c0, c1] ∧ DataW.trod enc P W 0 (fun _ => true) true n e [c0] = some y0 ∧ DataW.trod enc P W 0 (fun _ => true) true n e [c1] = some y1 := by
  obtain ⟨c0, c1, rfl⟩ : ∃ c0 c1, v = .agg #[c0, c1] := by
    simp only [Value.okWide, hu] at hv
    obtain ⟨cs, k1, k2, _⟩ := hv
    rw [h2] at k2
    obtain ⟨l⟩ := cs
    match l, k2 with
    | [c0, c1], _ => exact ⟨c0, c1, k1⟩
  obtain ⟨fuel, hf⟩ := hd
  cases fuel with
  | zero => simp [DataW.trod] at hf
  | succ n =>
    rw [DataW.trod_step] at hf
    unfold DataW.trodStep at hf
    simp only [hu, Value.cells] at hf
    rw [if_pos (by rw [h2]; rfl)] at hf
    simp only [Option.map_eq_some_iff] at hf
    obtain ⟨xs, hx, e1⟩ := hf
    rw [show List.range 2 = [0, 1] from rfl, List.mapM_cons, List.mapM_cons, List.mapM_nil] at hx
    simp only [bind, Option.bind_eq_some_iff, pure, Option.some.injEq, h1] at hx
    obtain ⟨y0, g0, _, ⟨y1, g1, _, rfl, rfl⟩, rfl⟩ := hx
    exact ⟨c0, c1, y0, y1, n, rfl, by simpa using g0, by simpa using g1⟩
end
end Go.Proofs.Ytndiaamoapidoaa
