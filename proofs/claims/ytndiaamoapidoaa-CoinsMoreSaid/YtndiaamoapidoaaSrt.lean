/- slices.Sort at []uint64, in the words of these texts. -/
import Derived.Test.YtndiaamoapidoaaBut
import Derived.Test.YtndiaamoapidoaaSoZ
namespace Go.Proofs.Ytndiaamoapidoaa
open Go.RowKit

def srt (l : List Nat) : List Nat := l.mergeSort fun x y => decide (x ≤ y)
theorem srt_perm (l : List Nat) : (srt l).Perm l := List.mergeSort_perm _ _
theorem srt_len (l : List Nat) : (srt l).length = l.length := (srt_perm l).length_eq
theorem srt_sorted (l : List Nat) : (srt l).Pairwise (· ≤ ·) := by
  have := List.pairwise_mergeSort (le := fun (x y : Nat) => decide (x ≤ y)) (fun a b c h1 h2 => by simp at h1 h2 ⊢; omega) (fun a b => by simp; omega) l
  exact this.imp (fun h => by simpa using h)
theorem srt_ints (l : List Nat) : (l.map fun (x : Nat) => (x : Int)).mergeSort (fun x y => decide (x ≤ y)) = (srt l).map fun (x : Nat) => (x : Int) := by
  unfold srt
  rw [List.map_mergeSort]
  intro a _ b _
  simp
theorem Arr.sorted {w : World} {g n c : Nat} {os : Array Obj} {l m : List Nat} (h : Arr w g l c) (hl : m.length = l.length) :
    Arr (Go.Sort.grow (Go.Sort.putRow (Value.int .u64) (Go.Sort.ahead w n) g 0 (m.map fun (x : Nat) => (x : Int)).toArray) os) g m c := by
  obtain ⟨cur, hg, hs, hlc, hm, ht⟩ := h
  have hlt : g < w.heap.size := (Array.getElem?_eq_some_iff.1 hg).1
  refine ⟨Go.Sort.putCells (Value.int .u64) 0 (m.map fun (x : Nat) => (x : Int)).toArray cur, ?_, by simp [Go.Sort.putCells, hs], by omega, hm, ?_⟩
  · rw [Go.Sort.heap_grow_old _ _ (by simpa using hlt)]
    simp [Go.Sort.putRow, Go.Sort.mapBlock, Go.Sort.ahead, Array.getElem?_modify, hg, Go.Sort.onCells]
  · apply List.ext_getElem?
    intro j
    by_cases hj : j < m.length
    · rw [List.getElem?_take_of_lt hj, Array.getElem?_toList]
      simp [Go.Sort.putCells, hj, show j < cur.size by omega, rowL]
    · rw [List.getElem?_take_eq_none (by omega), List.getElem?_eq_none (by simp [rowL]; omega)]
theorem But.sorted {w : World} {g n : Nat} {os : Array Obj} (d : Array Int) : But g w (Go.Sort.grow (Go.Sort.putRow (Value.int .u64) (Go.Sort.ahead w n) g 0 d) os) := by
  refine ⟨rfl, rfl, rfl, by simp, fun k hk hne => ?_⟩
  rw [Go.Sort.heap_grow_old _ _ (by simpa using hk)]
  have : g ≠ k := fun e => hne e.symm
  simp [Go.Sort.putRow, Go.Sort.mapBlock, Go.Sort.ahead, Array.getElem?_modify, this]
theorem Sort_arr (g c : Nat) (l : List Nat) (w : World) (h : Arr w g l c) (hl : l.length ≤ 1000000) :
    Calls Try.prog 28 #[.slice (some ⟨g, 0, none⟩) l.length c] w fun e w' => e = .returned (.tuple #[]) ∧ Arr w' g (srt l) c ∧ But g w w' := by
  have hH : Go.Sort.Holds (Value.int .u64) w g 0 (l.map fun (x : Nat) => (x : Int)).toArray := by
    intro j hj
    have hj' : j < l.length := by simpa using hj
    refine ⟨?_, h.frozen _⟩
    rw [Nat.zero_add, h.at hj']
    simp [hj', List.getD]
  have hc := U.slices_Sort g 0 c (l.map fun (x : Nat) => (x : Int)) w hH h.lt (by simp; omega)
  rw [List.length_map] at hc
  refine hc.mono ?_
  rintro e w' ⟨rfl, n, os, rfl⟩
  rw [srt_ints]
  exact ⟨rfl, h.sorted (srt_len l), But.sorted _⟩
/-- Of a slice of the call's own. -/
theorem Sort_own (base : Nat) (v : Value) (l : List Nat) (w : World) (h : Own w base v l) (hl : l.length ≤ 1000000) :
    Calls Try.prog 28 #[v] w fun e w' => e = .returned (.tuple #[]) ∧ Own w' base v (srt l) ∧ (∀ w0, Ext w0 w → w0.heap.size ≤ base → Ext w0 w') := by
  by_cases h0 : 0 < l.length
  · obtain ⟨g, c, rfl, hb, _, ha⟩ := h.arr h0
    refine (Sort_arr g c l w ha hl).mono ?_
    rintro e w' ⟨rfl, ha', hbut⟩
    refine ⟨rfl, ?_, fun w0 hx hs => hbut.ext hx (by omega)⟩
    have := ha'.own hb
    rw [srt_len] at this
    exact this
  · have hn : l = [] := List.eq_nil_of_length_eq_zero (by omega)
    subst hn
    obtain ⟨a, c, rfl, _⟩ := h.form
    refine (U.Sort_int_nil a c w).mono ?_
    rintro e w' ⟨rfl, rfl⟩
    exact ⟨rfl, by have : srt [] = [] := by simp [srt]
                   rw [this]; exact h, fun w0 hx _ => hx⟩
end Go.Proofs.Ytndiaamoapidoaa
