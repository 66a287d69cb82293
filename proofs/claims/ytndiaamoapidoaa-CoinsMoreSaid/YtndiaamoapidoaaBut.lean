/- Worlds that differ at one block. -/
import Derived.Test.YtndiaamoapidoaaRdn
namespace Go.Proofs.Ytndiaamoapidoaa
open Go.RowKit

/-- All that was there, but for block g, is as it was. -/
structure But (g : Nat) (w w' : World) : Prop where
  os : w'.os = w.os
  tape : w'.tape = w.tape
  output : w'.output = w.output
  size : w.heap.size ≤ w'.heap.size
  block : ∀ k, k < w.heap.size → k ≠ g → w'.heap[k]? = w.heap[k]?
theorem But.refl (g : Nat) (w : World) : But g w w := ⟨rfl, rfl, rfl, Nat.le_refl _, fun _ _ _ => rfl⟩
theorem But.trans {g : Nat} {a b c : World} (h : But g a b) (k : But g b c) : But g a c :=
  ⟨k.os.trans h.os, k.tape.trans h.tape, k.output.trans h.output, Nat.le_trans h.size k.size, fun i hi hne => (k.block i (Nat.lt_of_lt_of_le hi h.size) hne).trans (h.block i hi hne)⟩
theorem Ext.but {w w' : World} (h : Ext w w') (g : Nat) : But g w w' := ⟨h.os, h.tape, h.output, h.size, fun k hk _ => Below.block h k hk⟩
theorem But.ext {g : Nat} {w0 w w' : World} (h : But g w w') (h0 : Ext w0 w) (hg : w0.heap.size ≤ g) : Ext w0 w' :=
  ⟨h.os.trans h0.os, h.tape.trans h0.tape, h.output.trans h0.output, Nat.le_trans h0.size h.size, fun k hk => (h.block k (Nat.lt_of_lt_of_le hk h0.size) (by omega)).trans (Below.block h0 k hk)⟩
theorem But.set (w : World) (g i : Nat) (u : Value) : But g w (w.setCell ⟨g, i, none⟩ u) :=
  ⟨rfl, rfl, rfl, by simp [World.setCell], fun k _ hne => Below.heap_setCell _ _ _ _ hne⟩
theorem But.arr {g g' : Nat} {w w' : World} {l : List Nat} {c : Nat} (h : But g w w') (ha : Arr w g' l c) (hne : g' ≠ g) : Arr w' g' l c := by
  have hlt := ha.lt
  obtain ⟨cur, hg, r⟩ := ha
  exact ⟨cur, (h.block g' hlt hne).trans hg, r⟩
theorem But.cell {g : Nat} {w w' : World} (h : But g w w') {p : Addr} {v : Value} (hc : w.cell? p = some v) (hne : p.block ≠ g) : w'.cell? p = some v :=
  (World.cell?_of_block (w := w) (h.block p.block (World.block_lt_of_cell? w p hc) hne)).trans hc
theorem But.new {g : Nat} {w w' : World} (h : But g w w') (hg : w.heap.size ≤ g) : Ext w w' := h.ext (Ext.refl _) hg

theorem But.rd {g : Nat} {w w' : World} (h : But g w w') {a : Option Addr} {l : List Nat} (hr : Rd w a l) (hne : ∀ p : Addr, a = some p → p.block ≠ g) : Rd w' a l := by
  rcases hr with h1 | ⟨b, off, ha, hc⟩
  · exact .inl h1
  · exact .inr ⟨b, off, ha, fun i hi => h.cell (hc i hi) (by have := hne _ ha; exact this)⟩
theorem But.ofGrown {g : Nat} {w w' : World} (h : w.grownBy w' (some g)) : But g w w' := ⟨h.os, h.tape, h.output, h.size, fun k hk hne => h.block k hk (fun e => hne (Option.some.inj e))⟩
theorem But.own {g base : Nat} {w w' : World} {v : Value} {l : List Nat} (h : But g w w') (ho : Own w base v l) (hne : v.ownBlock ≠ some g) : Own w' base v l := by
  refine ⟨ho.1, ?_⟩
  rcases ho.2 with hn | ⟨g', cap, cur, rfl, hb, hgg, rest⟩
  · exact .inl hn
  · exact .inr ⟨g', cap, cur, rfl, hb, (h.block g' (Array.getElem?_eq_some_iff.1 hgg).1 (fun e => hne (by subst e; rfl))).trans hgg, rest⟩
end Go.Proofs.Ytndiaamoapidoaa
