/- A strings.Builder that is written to, and what stays as it was. -/
import Derived.Test.YtcheigpejbmaoaaDoorAs1
import Derived.Test.YtcheigpejbmaoaaDoorAsS
import Derived.Lib.AppendStr
import Derived.Lib.Builder
import Derived.Laws.Externs
import Derived.Handy
namespace Go.Proofs.YtcheigpejbmaoaaDoor
open Go.RowKit
theorem info_u8 : (Tryd.prog.info? 5).map (fun i => (i.zero, i.size, i.bytes)) = some (some (.int .u8 0), 1, 1) := by kernel_rfl
theorem size_bld : (Tryd.prog.info? 78).map (·.size) = some 2 := by kernel_rfl
theorem lies_bld : liesAt Tryd.prog Tryd.prog.depth 78 (2 / Tryd.prog.cellsOf 78) 0 78 1 = true := by kernel_rfl
/-- The builder in block b holds the bytes l, in the slice v. -/
def BX (b : Nat) (l : List UInt8) (v : Value) (w : World) : Prop :=
  ∃ p, (p = .pointer none ∨ p = .pointer (some ⟨b, 0, none⟩)) ∧ w.heap[b]? = some (.cells #[p, v] 78 (0, 0)) ∧ w.ownsRow 0 5 1 v l.length (Lib.byteCells l) ∧ v.ownBlock ≠ some b
/-- All blocks but b and g stay. -/
structure KB (b : Nat) (g : Option Nat) (w w' : World) : Prop where
  os : w'.os = w.os
  tape : w'.tape = w.tape
  output : w'.output = w.output
  size : w.heap.size ≤ w'.heap.size
  block : ∀ k, k < w.heap.size → k ≠ b → g ≠ some k → w'.heap[k]? = w.heap[k]?
structure Aft (b : Nat) (v : Value) (w : World) (l' : List UInt8) (v' : Value) (w' : World) : Prop where
  bx : BX b l' v' w'
  kb : KB b v.ownBlock w w'
  nw : v'.ownBlock = v.ownBlock ∨ ∃ k, v'.ownBlock = some k ∧ w.heap.size ≤ k
theorem BX.lt {b : Nat} {l : List UInt8} {v : Value} {w : World} (h : BX b l v w) : b < w.heap.size := by
  obtain ⟨p, _, h, _⟩ := h
  exact (Array.getElem?_eq_some_iff.1 h).1
theorem BX.own {b : Nat} {l : List UInt8} {v : Value} {w : World} (h : BX b l v w) {k : Nat} (hk : v.ownBlock = some k) : k < w.heap.size := by
  obtain ⟨p, _, _, h, _⟩ := h
  exact (World.ownsRow.lt h k hk).2
theorem BX.ext {b : Nat} {l : List UInt8} {v : Value} {w w' : World} (h : BX b l v w) (hx : Ext w w') : BX b l v w' := by
  have hlt := h.lt
  obtain ⟨p, hp, hb, ho, hne⟩ := h
  refine ⟨p, hp, (Below.block hx b hlt).trans hb, ⟨ho.1, ?_⟩, hne⟩
  rcases ho.2 with hn | ⟨g, cap, cur, rfl, hg0, hgg, rest⟩
  · exact .inl hn
  · exact .inr ⟨g, cap, cur, rfl, hg0, (Below.block hx g (Array.getElem?_eq_some_iff.1 hgg).1).trans hgg, rest⟩
theorem Aft.ofExt {b : Nat} {l : List UInt8} {v : Value} {w w' : World} (h : BX b l v w) (hx : Ext w w') : Aft b v w l v w' :=
  ⟨h.ext hx, ⟨hx.os, hx.tape, hx.output, hx.size, fun k hk _ _ => Below.block hx k hk⟩, .inl rfl⟩
theorem Aft.trans {b : Nat} {l1 l2 : List UInt8} {v v1 v2 : Value} {w w1 w2 : World} (h1 : Aft b v w l1 v1 w1) (h2 : Aft b v1 w1 l2 v2 w2) : Aft b v w l2 v2 w2 := by
  refine ⟨h2.bx, ⟨h2.kb.os.trans h1.kb.os, h2.kb.tape.trans h1.kb.tape, h2.kb.output.trans h1.kb.output, Nat.le_trans h1.kb.size h2.kb.size, fun k hk hb hg => ?_⟩, ?_⟩
  · have s := h1.kb.size
    refine (h2.kb.block k (by omega) hb (fun q => ?_)).trans (h1.kb.block k hk hb hg)
    rcases h1.nw with e | ⟨j, e, hj⟩
    · exact hg (e.symm.trans q)
    · rw [e] at q; injection q with q; omega
  · rcases h2.nw with e | ⟨j, e, hj⟩
    · rcases h1.nw with e1 | ⟨j, e1, hj⟩
      · exact .inl (e.trans e1)
      · exact .inr ⟨j, e.trans e1, hj⟩
    · exact .inr ⟨j, e, Nat.le_trans h1.kb.size hj⟩
theorem Aft.cell {b : Nat} {l : List UInt8} {v v' : Value} {w w' : World} (h : Aft b v w l v' w') {p : Addr} {x : Value} (hc : w.cell? p = some x) (h1 : p.block ≠ b) (h2 : v.ownBlock ≠ some p.block) : w'.cell? p = some x :=
  (World.cell?_of_block (h.kb.block p.block (World.block_lt_of_cell? w p hc) h1 h2)).trans hc
theorem Aft.off {b : Nat} {l : List UInt8} {v v' : Value} {w w' : World} (h : Aft b v w l v' w') {k : Nat} (hk : k < w.heap.size) (h2 : v.ownBlock ≠ some k) : v'.ownBlock ≠ some k := fun q => by
  rcases h.nw with e | ⟨j, e, hj⟩
  · exact h2 (e.symm.trans q)
  · rw [e] at q; injection q with q; omega
/-- The builder lies behind the first n blocks. -/
def Past (n b : Nat) (v : Value) : Prop := n ≤ b ∧ ∀ k, v.ownBlock = some k → n ≤ k
theorem Aft.past {b n : Nat} {l : List UInt8} {v v' : Value} {w w' : World} (h : Aft b v w l v' w') (hn : n ≤ w.heap.size) (hp : Past n b v) : Past n b v' :=
  ⟨hp.1, fun k hk => by
    rcases h.nw with e | ⟨j, e, hj⟩
    · exact hp.2 k (e.symm.trans hk)
    · rw [e] at hk; injection hk with hk; omega⟩
theorem Aft.ext {b : Nat} {l : List UInt8} {v v' : Value} {w0 w w' : World} (h : Aft b v w l v' w') (hx : Ext w0 w) (hp : Past w0.heap.size b v) : Ext w0 w' := by
  have s := hx.size
  refine Ext.trans (b := w0) (Ext.refl _) ?_
  refine ⟨h.kb.os.trans hx.os, h.kb.tape.trans hx.tape, h.kb.output.trans hx.output, Nat.le_trans s h.kb.size, fun k hk => ?_⟩
  exact (h.kb.block k (by omega) (by have := hp.1; omega) (fun q => by have := hp.2 k q; omega)).trans (Below.block hx k hk)
theorem BX.lib {b n : Nat} {l : List UInt8} {v : Value} {w : World} (h : BX b l v w) (hp : Past n b v) : Lib.IsBuilder 78 5 n b (Lib.byteCells l) w := by
  obtain ⟨p, hpp, hb, ho, hne⟩ := h
  have ho' : w.ownsRow n 5 1 v (Lib.byteCells l).length (Lib.byteCells l) := by
    rw [Lib.byteCells_length]
    refine ⟨ho.1, ?_⟩
    rcases ho.2 with hn | ⟨g, cap, cur, rfl, hg0, hgg, rest⟩
    · exact .inl hn
    · exact .inr ⟨g, cap, cur, rfl, hp.2 g rfl, hgg, rest⟩
  rcases hpp with rfl | rfl
  · exact .inl ⟨hp.1, v, hb, ho', hne⟩
  · exact .inr ⟨hp.1, v, hb, ho', hne⟩
theorem BX.new {w : World} {b : Nat} (hb : w.heap[b]? = some (.cells #[.pointer none, .slice none 0 0] 78 (0, 0))) : BX b [] (.slice none 0 0) w :=
  ⟨_, .inl rfl, hb, World.ownsRow_nil _ _ _ _, by simp [Value.ownBlock]⟩
set_option maxRecDepth 100000 in
theorem copyCheck_c (b : Nat) (l : List UInt8) (v : Value) (w : World) (h : BX b l v w) : Calls Tryd.prog 74 #[.pointer (some ⟨b, 0, none⟩)] w fun e w' => e = .returned (.tuple #[]) ∧ Aft b v w l v w' ∧ w'.heap[b]? = some (.cells #[.pointer (some ⟨b, 0, none⟩), v] 78 (0, 0)) := by
  obtain ⟨j, hj, hjs⟩ := Option.map_eq_some_iff.1 size_bld
  have H := Lib.hid h
  obtain ⟨p, hp, hb, ho, hne⟩ := h
  have h0 : w.cell? ⟨b, 0, none⟩ = some p := by rw [Lib.cell_of_heap hb]; rfl
  have hsh : w.shape? b = some (78, 2) := by simp [World.shape?, hb]
  have hfz : w.frozen? ⟨b, 0, none⟩ = false := by simp [World.frozen?, hb]
  have HB := Lib.hid hb
  have HO := Lib.hid (And.intro ho hne)
  clear hb ho hne
  rcases hp with rfl | rfl
  · go_enter Tryd.func74, Tryd.ntmps74
    go_wp2
    rw [Lib.run_to_unsafe w ⟨b, 0, none⟩ Tryd.underlying75 Tryd.underlying113 hj (by rw [hjs]; decide) hsh (Nat.zero_lt_succ 1)]
    simp only [Result.andThen]
    rw [Oper.upon_value]
    go_wp2
    rw [run_callFunc_extern Tryd.func93 (by kernel_rfl) (by kernel_rfl) (by kernel_rfl) (e := Extern.AbiNoEscape.same) (by kernel_rfl)]
    rw [Lib.run_noEscape]
    simp only [Result.andThen]
    rw [Oper.upon_value]
    go_wp2
    rw [Lib.run_from_unsafe w ⟨b, 0, none⟩ Tryd.underlying113 Tryd.underlying75 hj hsh lies_bld]
    simp only [Result.andThen]
    rw [Oper.upon_value]
    go_wp2
    go_end0
    have hb2 : (w.setCell ⟨b, 0, none⟩ (.pointer (some ⟨b, 0, none⟩))).heap[b]? = some (.cells #[.pointer (some ⟨b, 0, none⟩), v] 78 (0, 0)) := by
      simp [World.setCell, Array.getElem?_modify, HB.out]
    refine ⟨rfl, ⟨⟨_, .inr rfl, hb2, ?_, HO.out.2⟩, ⟨rfl, rfl, rfl, by simp [World.setCell], fun k hk h1 h2 => Below.heap_setCell _ _ _ _ h1⟩, .inl rfl⟩, hb2⟩
    exact HO.out.1.kept (row := some b) ⟨rfl, rfl, rfl, by simp [World.setCell], fun k _ hk => Below.heap_setCell _ _ _ _ (fun e => hk (by simp [e]))⟩ (Or.inr HO.out.2)
  · go_enter Tryd.func74, Tryd.ntmps74
    go_wp2
    rw [Lib.run_neq_ptr_same w _ Tryd.underlying75 hj]
    go_wp2
    go_end0
    exact ⟨rfl, Aft.ofExt H.out (Ext.refl _), HB.out⟩
end Go.Proofs.YtcheigpejbmaoaaDoor
