/- Contracts: the fast transform. -/
import Derived.Test.YtcnbinjoeilfgaaTr1
import Derived.Test.YtcnbinjoeilfgaaGS
namespace Go.Proofs.Ytcnbinjoeilfgaa
open Go.RowKit

/-- All that was there, but for block g, is as it was. -/
structure But (g : Nat) (w w' : World) : Prop where
  os : w'.os = w.os
  tape : w'.tape = w.tape
  output : w'.output = w.output
  size : w.heap.size ≤ w'.heap.size
  block : ∀ k, k < w.heap.size → k ≠ g → w'.heap[k]? = w.heap[k]?
theorem But.refl (g : Nat) (w : World) : But g w w := ⟨rfl, rfl, rfl, Nat.le_refl _, fun _ _ _ => rfl⟩
theorem But.trans {g : Nat} {a b c : World} (h : But g a b) (k : But g b c) : But g a c :=
  ⟨k.os.trans h.os, k.tape.trans h.tape, k.output.trans h.output, Nat.le_trans h.size k.size, fun i hi hne => (k.block i (Nat.lt_of_lt_of_le hi h.size) hne).trans (h.block i hi hne)⟩
theorem Ext.but {w w' : World} (h : Ext w w') (g : Nat) : But g w w' := ⟨h.os, h.tape, h.output, h.size, fun k hk _ => Below.block h k hk⟩
theorem But.ext {g : Nat} {w0 w w' : World} (h : But g w w') (h0 : Ext w0 w) (hg : w0.heap.size ≤ g) : Ext w0 w' :=
  ⟨h.os.trans h0.os, h.tape.trans h0.tape, h.output.trans h0.output, Nat.le_trans h0.size h.size, fun k hk => (h.block k (Nat.lt_of_lt_of_le hk h0.size) (by omega)).trans (Below.block h0 k hk)⟩
theorem But.set (w : World) (g i : Nat) (u : Value) : But g w (w.setCell ⟨g, i, none⟩ u) :=
  ⟨rfl, rfl, rfl, by simp [World.setCell], fun k _ hne => Below.heap_setCell _ _ _ _ hne⟩
theorem But.arr {g g' : Nat} {w w' : World} {l : List Nat} {c : Nat} (h : But g w w') (ha : Arr w g' l c) (hne : g' ≠ g) : Arr w' g' l c := by
  have hlt := ha.lt
  obtain ⟨cur, hg, r⟩ := ha
  exact ⟨cur, (h.block g' hlt hne).trans hg, r⟩
theorem But.cell {g : Nat} {w w' : World} (h : But g w w') {p : Addr} {v : Value} (hc : w.cell? p = some v) (hne : p.block ≠ g) : w'.cell? p = some v :=
  (World.cell?_of_block (w := w) (h.block p.block (World.block_lt_of_cell? w p hc) hne)).trans hc
theorem But.new {g : Nat} {w w' : World} (h : But g w w') (hg : w.heap.size ≤ g) : Ext w w' := h.ext (Ext.refl _) hg

def RdRel (p : Nat) (l : List Nat) (w1 : World) (g : Nat) (s : Value) (wr : World) : Prop :=
  ∃ k : Nat, s = .int .i64 k ∧ k ≤ l.length ∧ Arr wr g (fill (fun i => fred p (l.getD i 0)) l.length k) l.length ∧ Ext w1 wr

set_option maxHeartbeats 1000000 in
theorem treduced_c (p : Nat) (l : List Nat) (a : Option Addr) (c : Nat) (w : World) (ha : Rd w a l) (hl : l.length ≤ 1000000) :
    Calls Try.prog 41 #[.agg #[.int .u64 p], .slice a l.length c] w (SlPost w (l.map (fred p))) := by
  have hmk := make_c l.length l.length (Nat.le_refl _) (by omega)
  have HA := Lib.hid ha
  have hw0 := Lib.hid (Ext.refl (w.alloc (.cells #[.int .u64 p] 29)))
  obtain ⟨w1, hw1⟩ : ∃ w1, w1 = w.alloc (.cells #[.int .u64 p] 29) := ⟨_, rfl⟩
  have x1 : Hid (Ext w w1) := Lib.hid (by rw [hw1]; exact (Ext.refl _).alloc _)
  have hs1 : Hid (w1.heap.size = w.heap.size + 1) := Lib.hid (by rw [hw1]; simp)
  have hc : w1.cell? ⟨w.heap.size, 0, none⟩ = some (.int .u64 p) := by rw [hw1]; simp
  clear ha hw0
  go_enter Try.func41, Try.ntmps41
  go_wp2
  rw [← hw1]
  clear hmk
  go_loopw [13] (RdRel p l w1 (w.heap.size + 1)) (fun i _ => l.length - (intOf i).toNat)
  case atStart =>
    refine ⟨0, rfl, Nat.zero_le _, ?_, (Ext.refl _).alloc _⟩
    have := Arr.ofBlk (Blk.new w1 (rowA (List.replicate l.length 0))) (by simp; omega)
    rw [List.length_replicate] at this
    rw [fill_zero, ← hs1.out]; exact this
  case round =>
    obtain ⟨k, rfl, hk, harr, hext⟩ := hrel
    have hc2 := hext.cell hc
    by_cases hlt : k < l.length
    · obtain ⟨b, off, rfl, hcell⟩ := HA.out.at (by omega)
      have c1 := hext.cell (x1.out.cell (hcell k hlt))
      obtain ⟨x, hx0⟩ : ∃ x, x = l.getD k 0 := ⟨_, rfl⟩
      have hst := fill_step (fun i => fred p (l.getD i 0)) l.length k hlt
      rw [← hx0] at c1 hst
      have HAR := Lib.hid harr
      have HST := Lib.hid hst
      have hfl : Hid (k < (fill (fun i => fred p (l.getD i 0)) l.length k).length) := Lib.hid (by rw [fill_len _ _ _ hk]; exact hlt)
      clear hcell hx0 hst harr
      go_wp2_with fail
      refine (Reduce_c _ _ _).mono ?_; rintro e w2 ⟨rfl, x2⟩
      have HA2 := Lib.hid (HAR.out.ext x2)
      have f2 := HA2.out.frozen k
      have c2 := HA2.out.at hfl.out
      go_wp2
      go_roundw
      case rel =>
        refine ⟨k + 1, by go_num, by omega, ?_, (hext.trans x2).setNew (Nat.le_of_eq hs1.out) _⟩
        rw [← HST.out]; exact HA2.out.set k _ hfl.out
      case measure => simp [intOf]; omega
    · obtain rfl : k = l.length := by omega
      have HAR := Lib.hid harr
      clear harr
      go_wp2
      go_ret
      have hh := HAR.out
      rw [fill_full, range_map_getD] at hh
      have ho := hh.own (base := w.heap.size) (by omega)
      rw [List.length_map] at ho
      exact ⟨_, rfl, ho, x1.out.trans hext⟩
end Go.Proofs.Ytcnbinjoeilfgaa
