/- Slices of uint64: words for memory. -/
import Derived.Test.YtcnbinjoeilfgaaGA
import Derived.Laws.OwnMore
import Derived.Deep.Draws
import Derived.Laws.Rows
import Derived.Laws.MakeOwn
namespace Go.Proofs.Ytcnbinjoeilfgaa
open Go.RowKit

/-- Numbers as the cells of a row. -/
def rowL (l : List Nat) : List Value := l.map fun (x : Nat) => Value.int .u64 (x : Int)
def rowA (l : List Nat) : Array Value := (rowL l).toArray
theorem rowL_len (l : List Nat) : (rowL l).length = l.length := by simp [rowL]
theorem rowA_size (l : List Nat) : (rowA l).size = l.length := by simp [rowA, rowL]
theorem rowL_get (l : List Nat) (i : Nat) (h : i < l.length) : (rowL l)[i]? = some (.int .u64 ((l.getD i 0 : Nat) : Int)) := by
  simp [rowL, h, List.getD]
theorem rowA_get (l : List Nat) (i : Nat) (h : i < l.length) : (rowA l)[i]? = some (.int .u64 ((l.getD i 0 : Nat) : Int)) := by
  simp only [rowA, List.getElem?_toArray]; exact rowL_get l i h
theorem rowA_set (l : List Nat) (i x : Nat) : (rowA l).setIfInBounds i (.int .u64 (x : Int)) = rowA (l.set i x) := by
  simp [rowA, rowL, List.map_set]
theorem rowL_app (l m : List Nat) : rowL (l ++ m) = rowL l ++ rowL m := by simp [rowL]
theorem one_rowL (l : List Nat) : ∀ u ∈ rowL l, u.oneCell' = true := by
  intro u hu
  simp only [rowL, List.mem_map] at hu
  obtain ⟨x, _, rfl⟩ := hu
  rfl

/-- A slice at address a reads as the numbers l. -/
def Rd (w : World) (a : Option Addr) (l : List Nat) : Prop :=
  l = [] ∨ ∃ b off, a = some ⟨b, off, none⟩ ∧ ∀ i, i < l.length → w.cell? ⟨b, off + i, none⟩ = some (.int .u64 ((l.getD i 0 : Nat) : Int))
theorem Rd.nil (w : World) (a : Option Addr) : Rd w a [] := .inl rfl
theorem Rd.ext {w w' : World} {a : Option Addr} {l : List Nat} (h : Rd w a l) (hx : Ext w w') : Rd w' a l := by
  rcases h with h | ⟨b, off, ha, hc⟩
  · exact .inl h
  · exact .inr ⟨b, off, ha, fun i hi => hx.cell (hc i hi)⟩
theorem Rd.at {w : World} {a : Option Addr} {l : List Nat} (h : Rd w a l) (hl : 0 < l.length) : ∃ b off, a = some ⟨b, off, none⟩ ∧ ∀ i, i < l.length → w.cell? ⟨b, off + i, none⟩ = some (.int .u64 ((l.getD i 0 : Nat) : Int)) := by
  rcases h with h | h
  · subst h; simp at hl
  · exact h
theorem Rd.take {w : World} {a : Option Addr} {l : List Nat} (h : Rd w a l) (k : Nat) : Rd w a (l.take k) := by
  rcases h with h | ⟨b, off, ha, hc⟩
  · left; simp [h]
  · right
    refine ⟨b, off, ha, fun i hi => ?_⟩
    have h2 : i < k ∧ i < l.length := by simpa [List.length_take, Nat.lt_min] using hi
    rw [hc i h2.2]
    simp [List.getD, h2.1]

/-- A block that is known whole. -/
def Blk (w : World) (g : Nat) (cs : Array Value) : Prop := w.heap[g]? = some (.cells cs 22 (0, 0))
section
variable {w w' : World} {g : Nat} {cs : Array Value}
theorem Blk.lt (h : Blk w g cs) : g < w.heap.size := by
  rcases Nat.lt_or_ge g w.heap.size with hlt | hge
  · exact hlt
  · unfold Blk at h; rw [Array.getElem?_eq_none hge] at h; cases h
theorem Blk.cell (h : Blk w g cs) (i : Nat) : w.cell? ⟨g, i, none⟩ = cs[i]? := cell_of_row w g i cs 22 (0, 0) h
theorem Blk.frozen (h : Blk w g cs) (i : Nat) : w.frozen? ⟨g, i, none⟩ = false := by
  unfold Blk at h
  simp [World.frozen?, h]
theorem Blk.new (w : World) (cs : Array Value) : Blk (w.alloc (.cells cs 22)) w.heap.size cs := heap_alloc_new w _
theorem Blk.drew (h : Blk w g cs) : Blk w.drew g cs := h
theorem Blk.ext (h : Blk w g cs) (hx : Ext w w') : Blk w' g cs := (Below.block hx g h.lt).trans h
theorem Blk.alloc (h : Blk w g cs) (o : Obj) : Blk (w.alloc o) g cs := h.ext ((Ext.refl w).alloc o)
theorem Blk.set_ (h : Blk w g cs) (i : Nat) (u : Value) : Blk (w.setCell ⟨g, i, none⟩ u) g (cs.setIfInBounds i u) := by
  unfold Blk at h ⊢
  simp [World.setCell, Array.getElem?_modify, h]
theorem Blk.setN {l : List Nat} (h : Blk w g (rowA l)) (i x : Nat) : Blk (w.setCell ⟨g, i, none⟩ (.int .u64 (x : Int))) g (rowA (l.set i x)) := by
  rw [← rowA_set]; exact h.set_ i _
theorem Blk.at {l : List Nat} (h : Blk w g (rowA l)) {i : Nat} (hi : i < l.length) : w.cell? ⟨g, i, none⟩ = some (.int .u64 ((l.getD i 0 : Nat) : Int)) := by
  rw [h.cell, rowA_get l i hi]
theorem Blk.far {g' : Nat} (h : Blk w g cs) {p : Addr} (hp : g ≠ p.block) (u : Value) (_ : g' = g') : Blk (w.setCell p u) g cs := (Below.heap_setCell w p u g hp).trans h
theorem Blk.rd {l m : List Nat} (h : Blk w g (rowA (l ++ m))) : Rd w (some ⟨g, 0, none⟩) l := by
  right
  refine ⟨g, 0, rfl, fun i hi => ?_⟩
  rw [Nat.zero_add, h.at (by simp; omega)]
  simp [List.getD, List.getElem?_append_left hi]
theorem Blk.rd' {l : List Nat} (h : Blk w g (rowA l)) : Rd w (some ⟨g, 0, none⟩) l := Blk.rd (m := []) (by simpa using h)
end

/-- Reading, with a frame: below block B (all of it), w' reads as w did. -/
theorem Rd.below {w w' : World} {a : Option Addr} {l : List Nat} (h : Rd w a l) {w0 : World} (h0 : Ext w0 w) (hr : Rd w0 a l) (hb : Below w0.heap.size w0 w') : Rd w' a l := by
  have _ := h; have _ := h0
  exact hr.ext hb

/-- A slice of the call's own (nil, or the head of a block from base on, not frozen), its elements l. -/
def Own (w : World) (base : Nat) (v : Value) (l : List Nat) : Prop := w.ownsRow base 22 1 v l.length (rowL l)
theorem Own.nil (w : World) (base : Nat) : Own w base (.slice none 0 0) [] := World.ownsRow_nil _ _ _ _
theorem Own.grow {w w' : World} {base : Nat} {v : Value} {l : List Nat} (h : Own w base v l) (hx : Ext w w') : Own w' base v l := by
  refine ⟨h.1, ?_⟩
  rcases h.2 with hn | ⟨g, cap, cur, rfl, hb, hgg, rest⟩
  · exact .inl hn
  · exact .inr ⟨g, cap, cur, rfl, hb, (Below.block hx g (Array.getElem?_eq_some_iff.1 hgg).1).trans hgg, rest⟩
theorem Own.base {w : World} {base base' : Nat} {v : Value} {l : List Nat} (h : Own w base v l) (hb : base' ≤ base) : Own w base' v l := by
  refine ⟨h.1, ?_⟩
  rcases h.2 with hn | ⟨g, cap, cur, rfl, hg, rest⟩
  · exact .inl hn
  · exact .inr ⟨g, cap, cur, rfl, Nat.le_trans hb hg, rest⟩
/-- What an owned slice is: nil and empty, or a whole block whose first elements are l. -/
theorem Own.form {w : World} {base : Nat} {v : Value} {l : List Nat} (h : Own w base v l) :
    ∃ a c, v = .slice a l.length c ∧ l.length ≤ c ∧ c ≤ maxLen ∧ Rd w a l := by
  rcases h.2 with ⟨rfl, hn⟩ | ⟨g, cap, cur, rfl, hb, hg, hnc, hm, hs, ht⟩
  · have : l = [] := List.eq_nil_of_length_eq_zero hn
    subst this
    exact ⟨none, 0, rfl, Nat.le_refl _, by simp [maxLen], Rd.nil _ _⟩
  · refine ⟨some ⟨g, 0, none⟩, cap, rfl, hnc, hm, ?_⟩
    right
    refine ⟨g, 0, rfl, fun i hi => ?_⟩
    have hc := World.ownsRow.cells (w := w) h (g := g) rfl i _ (rowL_get l i hi)
    have hadd : (⟨g, 0, none⟩ : Addr).add i = ⟨g, i, none⟩ := by unfold Addr.add; split <;> simp_all
    rw [hadd] at hc
    rw [Nat.zero_add]; exact hc
theorem Own.ofBlk {w : World} {base g : Nat} {l m : List Nat} (h : Blk w g (rowA (l ++ m))) (hb : base ≤ g) (hm : (l ++ m).length ≤ maxLen) : Own w base (.slice (some ⟨g, 0, none⟩) l.length (l ++ m).length) l := by
  refine ⟨by simp [rowL], .inr ⟨g, (l ++ m).length, rowA (l ++ m), rfl, hb, h, by simp, hm, by simp [rowA, rowL], ?_⟩⟩
  simp [rowA, rowL]

/-- make([]uint64, n). -/
theorem info_u64 : (Try.prog.info? 22).map (fun i => (i.zero, i.size, i.bytes)) = some (some (.int .u64 0), 1, 8) := by kernel_rfl
theorem made_row (n : Nat) : madeCells #[.int .u64 0] n = rowA (List.replicate n 0) := by
  unfold madeCells rowA rowL
  apply Array.ext
  · simp
  · intro i h1 h2
    simp [Nat.mod_one]
theorem make_c (n c : Nat) (hn : n ≤ c) (hc : c ≤ 16777216) (w : World) : (Instr.makeSlice 23 (.int .i64 (n : Int)) (.int .i64 (c : Int))).run Try.prog w =
    .ok (.slice (some ⟨w.heap.size, 0, none⟩) n c) (w.alloc (.cells (rowA (List.replicate c 0)) 22)) := by
  obtain ⟨i0, hi, hz0, hz1, hz2⟩ := info_parts info_u64
  have h := run_make (P := Try.prog) w 23 22 i0 (.int .u64 0) Try.underlying23 hi hz0 .i64 .i64 n c (by omega) (by omega) (by rw [hz2]; omega) (by omega)
  rw [h, hz1]
  have : (Value.int IntKind.u64 0).cells = #[.int .u64 0] := rfl
  simp only [Int.toNat_natCast, Nat.mul_one, this, made_row]
end Go.Proofs.Ytcnbinjoeilfgaa
