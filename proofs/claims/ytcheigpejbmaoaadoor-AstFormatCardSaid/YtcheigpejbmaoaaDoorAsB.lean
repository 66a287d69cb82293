/- The fixed examples of layer 15. -/
import Derived.Test.YtcheigpejbmaoaaDoorAsA
namespace Go.Proofs.YtcheigpejbmaoaaDoor
open Go.RowKit
theorem op_c (n : Int) (a : Option Addr) (l c : Nat) (w : World) : Calls Tryd.prog 20 #[.int .i64 n, .slice a l c] w fun r w' => r = .returned (.agg #[.int .i64 n, .int .u64 0, .string ⟨#[]⟩, .slice a l c]) ∧ Ext w w' := by
  go_enter Tryd.func20, Tryd.ntmps20
  go_wp2
  go_returns
  exact ⟨rfl, by first | exact (Ext.refl _).alloc _ | exact ((Ext.refl _).alloc _).setNew (Nat.le_refl _) _⟩
def leaf (s : ByteArray) : E := .mk 2 0 s none 0 []
def nd1 (op : Int) (g : Nat) (x : E) : E := .mk op 0 ⟨#[]⟩ (some ⟨g, 0, none⟩) 1 [x]
def nd2 (op : Int) (g : Nat) (x y : E) : E := .mk op 0 ⟨#[]⟩ (some ⟨g, 0, none⟩) 2 [x, y]
theorem in_leaf (s : ByteArray) (w : World) (h : s.size ≤ 100) : InE w (leaf s) := InE.eq.2 ⟨⟨by show (-9223372036854775808 : Int) ≤ 2; decide, by show (2 : Int) ≤ 9223372036854775807; decide, by show 0 < 18446744073709551616; decide, Nat.le_refl _, by show 0 ≤ 9223372036854775807; decide, by show s.size ≤ _; omega⟩, by unfold InEs leaf E.args; trivial⟩
/-- The cells of an expression from place k on. -/
def C4 (w : World) (g k : Nat) (e : E) : Prop := w.cell? ⟨g, k, none⟩ = some (.int .i64 e.op) ∧ w.cell? ⟨g, k + 1, none⟩ = some (.int .u64 (e.val : Int)) ∧ w.cell? ⟨g, k + 2, none⟩ = some (.string e.name) ∧ w.cell? ⟨g, k + 3, none⟩ = some (.slice e.a e.args.length e.cap)
theorem C4.at {w : World} {g i : Nat} {e : E} (h : C4 w g (i * 4) e) : At4 w (some ⟨g, 0, none⟩) i e := ⟨g, 0, rfl, by rw [Nat.zero_add]; exact h.1, by rw [Nat.zero_add]; exact h.2.1, by rw [Nat.zero_add]; exact h.2.2.1, by rw [Nat.zero_add]; exact h.2.2.2⟩
theorem in_nd1 {op : Int} {g : Nat} {x : E} {w : World} (h1 : -100 ≤ op) (h2 : op ≤ 100) (hc : C4 w g 0 x) (hx : InE w x) : InE w (nd1 op g x) :=
  InE.eq.2 ⟨⟨by show _ ≤ op; omega, by show op ≤ _; omega, by show 0 < 18446744073709551616; decide, Nat.le_refl _, by show 1 ≤ 9223372036854775807; decide, by show 0 ≤ 140737488355328; decide⟩, InEs.cons.2 ⟨C4.at (i := 0) hc, hx, by unfold InEs; trivial⟩⟩
theorem in_nd2 {op : Int} {g : Nat} {x y : E} {w : World} (h1 : -100 ≤ op) (h2 : op ≤ 100) (hc : C4 w g 0 x) (hd : C4 w g 4 y) (hx : InE w x) (hy : InE w y) : InE w (nd2 op g x y) :=
  InE.eq.2 ⟨⟨by show _ ≤ op; omega, by show op ≤ _; omega, by show 0 < 18446744073709551616; decide, Nat.le_refl _, by show 2 ≤ 9223372036854775807; decide, by show 0 ≤ 140737488355328; decide⟩, InEs.cons.2 ⟨C4.at (i := 0) hc, hx, InEs.cons.2 ⟨C4.at (i := 1) hd, hy, by unfold InEs; trivial⟩⟩⟩
theorem cnew8 (w : World) (cs : Array Value) (t : TypeId) (i : Nat) : (w.alloc (.cells cs t)).cell? ⟨w.heap.size, i, none⟩ = cs[i]? := by simp [World.cell?_alloc_new]
def ex1 (g1 g2 g3 g4 : Nat) : E := nd2 11 g4 (nd2 12 g1 (leaf ⟨#[97]⟩) (leaf ⟨#[98]⟩)) (nd1 9 g3 (nd1 9 g2 (leaf ⟨#[99]⟩)))
def ex2 (g1 g2 : Nat) : E := nd1 10 g2 (nd2 18 g1 (leaf ⟨#[120]⟩) (leaf ⟨#[121]⟩))
theorem ex1_ok (g1 g2 g3 g4 : Nat) : okE (ex1 g1 g2 g3 g4) = true := by kernel_rfl
theorem ex1_sz (g1 g2 g3 g4 : Nat) : E.sz (ex1 g1 g2 g3 g4) = 7 := by kernel_rfl
theorem ex1_dep (g1 g2 g3 g4 : Nat) : depE (ex1 g1 g2 g3 g4) = 4 := by kernel_rfl
theorem ex1_tx (g1 g2 g3 g4 : Nat) : txB (ex1 g1 g2 g3 g4) = [40, 97, 32, 43, 32, 98, 41, 32, 42, 32, 45, 40, 45, 99, 41] := by kernel_rfl
theorem ex2_ok (g1 g2 : Nat) : okE (ex2 g1 g2) = true := by kernel_rfl
theorem ex2_sz (g1 g2 : Nat) : E.sz (ex2 g1 g2) = 4 := by kernel_rfl
theorem ex2_dep (g1 g2 : Nat) : depE (ex2 g1 g2) = 3 := by kernel_rfl
theorem ex2_tx (g1 g2 : Nat) : txB (ex2 g1 g2) = [110, 111, 116, 32, 40, 120, 32, 97, 110, 100, 32, 121, 41] := by kernel_rfl
theorem FE1 (g1 g2 g3 g4 : Nat) (w : World) (ht : Tab w) (he : InE w (ex1 g1 g2 g3 g4)) : Calls Tryd.prog 19 #[.agg #[.int .i64 11, .int .u64 0, .string ⟨#[]⟩, .slice (some ⟨g4, 0, none⟩) 2 2]] w fun r w' => r = .returned (.tuple #[.string ⟨#[40, 97, 32, 43, 32, 98, 41, 32, 42, 32, 45, 40, 45, 99, 41]⟩, .int .i64 0]) ∧ Ext w w' := by
  have := FormatExpr_ok (ex1 g1 g2 g3 g4) w he ht (ex1_ok _ _ _ _) (by rw [ex1_sz]; omega) (by rw [ex1_dep]; omega) (by rw [ex1_tx]; decide)
  rw [ex1_tx] at this
  exact this
theorem FE2 (g1 g2 : Nat) (w : World) (ht : Tab w) (he : InE w (ex2 g1 g2)) : Calls Tryd.prog 19 #[.agg #[.int .i64 10, .int .u64 0, .string ⟨#[]⟩, .slice (some ⟨g2, 0, none⟩) 1 1]] w fun r w' => r = .returned (.tuple #[.string ⟨#[110, 111, 116, 32, 40, 120, 32, 97, 110, 100, 32, 121, 41]⟩, .int .i64 0]) ∧ Ext w w' := by
  have := FormatExpr_ok (ex2 g1 g2) w he ht (ex2_ok _ _) (by rw [ex2_sz]; omega) (by rw [ex2_dep]; omega) (by rw [ex2_tx]; decide)
  rw [ex2_tx] at this
  exact this
set_option maxRecDepth 100000 in
set_option maxHeartbeats 4000000 in
theorem awake_c (w : World) (ht : Tab w) : Calls Tryd.prog 8 #[] w fun r w' => r = .returned (.bool true) ∧ Ext w w' := by
  have HT := Lib.hid ht
  clear ht
  go_enter Tryd.func8, Tryd.ntmps8
  go_wp2_with fail
  refine (name_c _ _).mono ?_; rintro e1 w1 ⟨rfl, x1⟩
  go_wp2_with fail
  refine (name_c _ _).mono ?_; rintro e2 w2 ⟨rfl, x2⟩
  have X2 := Lib.hid (x1.trans x2)
  clear x1 x2
  go_wp2_with fail
  refine (op_c _ _ _ _ _).mono ?_; rintro e3 w3 ⟨rfl, x3⟩
  have I3 : Hid (InE w3 (nd2 12 w2.heap.size (leaf ⟨#[97]⟩) (leaf ⟨#[98]⟩))) := Lib.hid (in_nd2 (by decide) (by decide) ⟨x3.cell (cnew8 _ _ _ _), x3.cell (cnew8 _ _ _ _), x3.cell (cnew8 _ _ _ _), x3.cell (cnew8 _ _ _ _)⟩ ⟨x3.cell (cnew8 _ _ _ _), x3.cell (cnew8 _ _ _ _), x3.cell (cnew8 _ _ _ _), x3.cell (cnew8 _ _ _ _)⟩ (in_leaf _ _ (by decide)) (in_leaf _ _ (by decide)))
  have X3 := Lib.hid (X2.out.trans x3.box)
  clear x3
  go_wp2_with fail
  refine (name_c _ _).mono ?_; rintro e4 w4 ⟨rfl, x4⟩
  have I4 := Lib.hid (I3.out.to x4)
  have X4 := Lib.hid (X3.out.trans x4)
  clear x4
  go_wp2_with fail
  refine (op_c _ _ _ _ _).mono ?_; rintro e5 w5 ⟨rfl, x5⟩
  have I5 : Hid (InE w5 (nd1 9 w4.heap.size (leaf ⟨#[99]⟩))) := Lib.hid (in_nd1 (by decide) (by decide) ⟨x5.cell (cnew8 _ _ _ _), x5.cell (cnew8 _ _ _ _), x5.cell (cnew8 _ _ _ _), x5.cell (cnew8 _ _ _ _)⟩ (in_leaf _ _ (by decide)))
  have J5 := Lib.hid (I4.out.to x5.box)
  have X5 := Lib.hid (X4.out.trans x5.box)
  clear x5
  go_wp2_with fail
  refine (op_c _ _ _ _ _).mono ?_; rintro e6 w6 ⟨rfl, x6⟩
  have I6 : Hid (InE w6 (nd1 9 w5.heap.size (nd1 9 w4.heap.size (leaf ⟨#[99]⟩)))) := Lib.hid (in_nd1 (by decide) (by decide) ⟨x6.cell (cnew8 _ _ _ _), x6.cell (cnew8 _ _ _ _), x6.cell (cnew8 _ _ _ _), x6.cell (cnew8 _ _ _ _)⟩ (I5.out.to x6.box))
  have J6 := Lib.hid (J5.out.to x6.box)
  have X6 := Lib.hid (X5.out.trans x6.box)
  clear x6
  go_wp2_with fail
  refine (op_c _ _ _ _ _).mono ?_; rintro e7 w7 ⟨rfl, x7⟩
  have I7 : Hid (InE w7 (ex1 w2.heap.size w4.heap.size w5.heap.size w6.heap.size)) := Lib.hid (in_nd2 (by decide) (by decide) ⟨x7.cell (cnew8 _ _ _ _), x7.cell (cnew8 _ _ _ _), x7.cell (cnew8 _ _ _ _), x7.cell (cnew8 _ _ _ _)⟩ ⟨x7.cell (cnew8 _ _ _ _), x7.cell (cnew8 _ _ _ _), x7.cell (cnew8 _ _ _ _), x7.cell (cnew8 _ _ _ _)⟩ (J6.out.to x7.box) (I6.out.to x7.box))
  have X7 := Lib.hid (X6.out.trans x7.box)
  clear x7
  go_wp2_with fail
  refine (FE1 _ _ _ _ _ (HT.out.ext X7.out) I7.out).mono ?_; rintro e8 w8 ⟨rfl, x8⟩
  have X8 := Lib.hid (X7.out.trans x8)
  clear x8
  go_wp2_with fail
  refine (name_c _ _).mono ?_; rintro e1 w9 ⟨rfl, x1⟩
  go_wp2_with fail
  refine (name_c _ _).mono ?_; rintro e2 w10 ⟨rfl, x2⟩
  have X10 := Lib.hid (X8.out.trans (x1.trans x2))
  clear x1 x2
  go_wp2_with fail
  refine (op_c _ _ _ _ _).mono ?_; rintro e3 w11 ⟨rfl, x3⟩
  have I11 : Hid (InE w11 (nd2 18 w10.heap.size (leaf ⟨#[120]⟩) (leaf ⟨#[121]⟩))) := Lib.hid (in_nd2 (by decide) (by decide) ⟨x3.cell (cnew8 _ _ _ _), x3.cell (cnew8 _ _ _ _), x3.cell (cnew8 _ _ _ _), x3.cell (cnew8 _ _ _ _)⟩ ⟨x3.cell (cnew8 _ _ _ _), x3.cell (cnew8 _ _ _ _), x3.cell (cnew8 _ _ _ _), x3.cell (cnew8 _ _ _ _)⟩ (in_leaf _ _ (by decide)) (in_leaf _ _ (by decide)))
  have X11 := Lib.hid (X10.out.trans x3.box)
  clear x3
  go_wp2_with fail
  refine (op_c _ _ _ _ _).mono ?_; rintro e5 w12 ⟨rfl, x5⟩
  have I12 : Hid (InE w12 (ex2 w10.heap.size w11.heap.size)) := Lib.hid (in_nd1 (by decide) (by decide) ⟨x5.cell (cnew8 _ _ _ _), x5.cell (cnew8 _ _ _ _), x5.cell (cnew8 _ _ _ _), x5.cell (cnew8 _ _ _ _)⟩ (I11.out.to x5.box))
  have X12 := Lib.hid (X11.out.trans x5.box)
  clear x5
  go_wp2_with fail
  refine (FE2 _ _ _ (HT.out.ext X12.out) I12.out).mono ?_; rintro e8 w13 ⟨rfl, x8⟩
  have X13 := Lib.hid (X12.out.trans x8)
  clear x8
  go_wp2_with fail
  go_ret
  exact ⟨rfl, X13.out⟩
end Go.Proofs.YtcheigpejbmaoaaDoor
