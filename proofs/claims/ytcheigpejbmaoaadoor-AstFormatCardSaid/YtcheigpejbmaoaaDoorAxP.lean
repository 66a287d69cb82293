/- The records of the programs, opened: from the smallest up to api.Program. Printed by gen/ast11.py. -/
import Derived.Test.YtcheigpejbmaoaaDoorAxO
namespace Go.Proofs.YtcheigpejbmaoaaDoor
open Go.ChangeShapes Go.WideShapes Go.ChangeAt Go.RowKit Go.Joins
theorem nat_of_wf64 {n : Int} (h : (Lit.int .u64 n).wf = true) : ∃ k : Nat, n = (k : Int) ∧ k < 18446744073709551616 := by
  have hb := bounds_u64 h
  exact ⟨n.toNat, by omega, by omega⟩
theorem list3 {α : Type} {l : List α} (h : l.length = 3) : ∃ c0 c1 c2, l = [c0, c1, c2] := by
  match l, h with
  | [c0, c1, c2], _ => exact ⟨c0, c1, c2, rfl⟩
theorem list4 {α : Type} {l : List α} (h : l.length = 4) : ∃ c0 c1 c2 c3, l = [c0, c1, c2, c3] := by
  match l, h with
  | [c0, c1, c2, c3], _ => exact ⟨c0, c1, c2, c3, rfl⟩
theorem list5 {α : Type} {l : List α} (h : l.length = 5) : ∃ c0 c1 c2 c3 c4, l = [c0, c1, c2, c3, c4] := by
  match l, h with
  | [c0, c1, c2, c3, c4], _ => exact ⟨c0, c1, c2, c3, c4, rfl⟩
theorem list10 {α : Type} {l : List α} (h : l.length = 10) : ∃ c0 c1 c2 c3 c4 c5 c6 c7 c8 c9, l = [c0, c1, c2, c3, c4, c5, c6, c7, c8, c9] := by
  match l, h with
  | [c0, c1, c2, c3, c4, c5, c6, c7, c8, c9], _ => exact ⟨c0, c1, c2, c3, c4, c5, c6, c7, c8, c9, rfl⟩
theorem list13 {α : Type} {l : List α} (h : l.length = 13) : ∃ c0 c1 c2 c3 c4 c5 c6 c7 c8 c9 c10 c11 c12, l = [c0, c1, c2, c3, c4, c5, c6, c7, c8, c9, c10, c11, c12] := by
  match l, h with
  | [c0, c1, c2, c3, c4, c5, c6, c7, c8, c9, c10, c11, c12], _ => exact ⟨c0, c1, c2, c3, c4, c5, c6, c7, c8, c9, c10, c11, c12, rfl⟩
theorem cells_Ty : Tryd.prog.cellsOf 33 = 3 := by kernel_rfl
theorem cells_E : Tryd.prog.cellsOf 44 = 4 := by kernel_rfl
theorem cells_P : Tryd.prog.cellsOf 53 = 4 := by kernel_rfl
theorem cells_D : Tryd.prog.cellsOf 55 = 5 := by kernel_rfl
theorem cells_S : Tryd.prog.cellsOf 61 = 13 := by kernel_rfl
theorem cells_F : Tryd.prog.cellsOf 50 = 10 := by kernel_rfl
theorem cells_G : Tryd.prog.cellsOf 26 = 3 := by kernel_rfl
theorem cells_1 {t : TypeId} (h : Tryd.prog.cellsOf t = 1) : Tryd.prog.cellsOf t = 1 := h
section
variable {H : Type} {enc : TypeId × Value → H} {W : World}
theorem trod_fields {P : Program} {t : TypeId} {fs : Array Field} {fuel : Nat} {cs : List Value} {y : DataW H × List MemPlace} (ht : P.underlying t = some (.struct fs)) (h : DataW.trod enc P W 0 (fun _ => true) true fuel t cs = some y) :
    ∃ n, fuel = n + 1 ∧ cs.length = P.cellsOf t ∧ ∀ (i : Nat) (f : Field), fs[i]? = some f → ∃ yi, DataW.trod enc P W 0 (fun _ => true) true n f.type ((cs.drop f.offset).take (P.cellsOf f.type)) = some yi ∧ ∀ m ∈ yi.1.weights P f.type, m ∈ y.1.weights P t := by
  obtain ⟨xs, n, hn, hy, hl, hlen, hf⟩ := DataW.trod_struct ht h
  refine ⟨n, hn, hl, fun i f hi => ?_⟩
  have hi2 : i < fs.size := by
    rcases Nat.lt_or_ge i fs.size with q | q
    · exact q
    · rw [Array.getElem?_eq_none q] at hi; cases hi
  have hx := hf i f hi
  rw [List.getElem?_eq_getElem (by omega)] at hx
  refine ⟨_, hx, fun m hm => ?_⟩
  rw [hy]
  simp only [DataW.weights, ht]
  refine DataW.weights_mem_each (j := i) (t := f.type) (d := (xs[i]'(by omega)).1) ?_ ?_ m hm
  · simp [hi]
  · simp [List.getElem?_eq_getElem (show i < xs.length by omega)]
theorem open_str {fuel : Nat} {c : Value} {y : DataW H × List MemPlace} (h : DataW.trod enc Tryd.prog W 0 (fun _ => true) true fuel 9 [c] = some y) (hw : ∀ m ∈ y.1.weights Tryd.prog 9, m ≤ reachBytes) : ∃ s : ByteArray, c = .string s ∧ s.size ≤ 140737488355328 := by
  obtain ⟨s, e, hy, _⟩ := DataW.trod_string Tryd.underlying9 h
  refine ⟨s, List.singleton_inj.1 e, ?_⟩
  have h1 := hw s.data.toList.length (by rw [hy]; simp [DataW.weights])
  have h2 := reachBytes_lt
  have h3 : s.data.toList.length = s.size := by simp
  omega
theorem op_Ty {fuel : Nat} {cs : List Value} {y : DataW H × List MemPlace} (h : DataW.trod enc Tryd.prog W 0 (fun _ => true) true fuel 33 cs = some y) (hw : ∀ m ∈ y.1.weights Tryd.prog 33, m ≤ reachBytes) : ∃ t : Ty, cs = [.int .i64 t.k, .int .i64 t.b, .int .i64 t.n] ∧ TyB t := by
  obtain ⟨n, hfu, hl, hf⟩ := trod_fields Tryd.underlying33 h
  rw [cells_Ty] at hl
  obtain ⟨c0, c1, c2, rfl⟩ := list3 hl
  have q0 : ∃ yi, DataW.trod enc Tryd.prog W 0 (fun _ => true) true n 3 ((([c0, c1, c2] : List Value).drop 0).take (Tryd.prog.cellsOf 3)) = some yi ∧ ∀ m ∈ yi.1.weights Tryd.prog 3, m ∈ y.1.weights Tryd.prog 33 := hf 0 _ rfl
  obtain ⟨y0, q0, w0⟩ := q0
  have g0 : DataW.trod enc Tryd.prog W 0 (fun _ => true) true n 3 [c0] = some y0 := by rw [cells_1 (t := 3) (by kernel_rfl)] at q0; exact q0
  replace w0 : ∀ m ∈ y0.1.weights Tryd.prog 3, m ≤ reachBytes := fun m hm => hw m (w0 m hm)
  clear q0
  have q1 : ∃ yi, DataW.trod enc Tryd.prog W 0 (fun _ => true) true n 3 ((([c0, c1, c2] : List Value).drop 1).take (Tryd.prog.cellsOf 3)) = some yi ∧ ∀ m ∈ yi.1.weights Tryd.prog 3, m ∈ y.1.weights Tryd.prog 33 := hf 1 _ rfl
  obtain ⟨y1, q1, w1⟩ := q1
  have g1 : DataW.trod enc Tryd.prog W 0 (fun _ => true) true n 3 [c1] = some y1 := by rw [cells_1 (t := 3) (by kernel_rfl)] at q1; exact q1
  replace w1 : ∀ m ∈ y1.1.weights Tryd.prog 3, m ≤ reachBytes := fun m hm => hw m (w1 m hm)
  clear q1
  have q2 : ∃ yi, DataW.trod enc Tryd.prog W 0 (fun _ => true) true n 3 ((([c0, c1, c2] : List Value).drop 2).take (Tryd.prog.cellsOf 3)) = some yi ∧ ∀ m ∈ yi.1.weights Tryd.prog 3, m ∈ y.1.weights Tryd.prog 33 := hf 2 _ rfl
  obtain ⟨y2, q2, w2⟩ := q2
  have g2 : DataW.trod enc Tryd.prog W 0 (fun _ => true) true n 3 [c2] = some y2 := by rw [cells_1 (t := 3) (by kernel_rfl)] at q2; exact q2
  replace w2 : ∀ m ∈ y2.1.weights Tryd.prog 3, m ≤ reachBytes := fun m hm => hw m (w2 m hm)
  clear q2
  obtain ⟨z0, e0, _, k0⟩ := DataW.trod_int Tryd.underlying3 g0
  obtain rfl := List.singleton_inj.1 e0
  have b0 := bounds_i64 k0
  obtain ⟨z1, e1, _, k1⟩ := DataW.trod_int Tryd.underlying3 g1
  obtain rfl := List.singleton_inj.1 e1
  have b1 := bounds_i64 k1
  obtain ⟨z2, e2, _, k2⟩ := DataW.trod_int Tryd.underlying3 g2
  obtain rfl := List.singleton_inj.1 e2
  have b2 := bounds_i64 k2
  clear hf hl
  exact ⟨⟨z0, z1, z2⟩, rfl, b0, b1, b2⟩
theorem InEs.mk {a : Option Addr} : ∀ (l : List E) (k : Nat), (∀ (i : Nat) x, l[i]? = some x → At4 W a (k + i) x ∧ InE W x) → InEs W a k l
  | [], _, _ => by unfold InEs; trivial
  | x :: l, k, h => InEs.cons.2 ⟨(h 0 x rfl).1, (h 0 x rfl).2, InEs.mk l (k + 1) (fun i u hu => by have := h (i + 1) u (by simpa using hu); rw [show k + (i + 1) = k + 1 + i by omega] at this; exact this)⟩
theorem At4.of {a : Option Addr} {i : Nat} {e : E} (h : AtG W 4 a i e.cs) : At4 W a i e := by
  obtain ⟨b, o, rfl, h⟩ := h
  exact ⟨b, o, rfl, h 0 _ rfl, h 1 _ rfl, h 2 _ rfl, h 3 _ rfl⟩
theorem op_E : ∀ (fuel : Nat) (cs : List Value) (y : DataW H × List MemPlace), DataW.trod enc Tryd.prog W 0 (fun _ => true) true fuel 44 cs = some y → (∀ m ∈ y.1.weights Tryd.prog 44, m ≤ reachBytes) → ∃ e : E, cs = e.cs ∧ InE W e := by
  intro fuel
  induction fuel using Nat.strongRecOn with
  | _ fuel ih =>
    intro cs y h hw
    obtain ⟨n, hfu, hl, hf⟩ := trod_fields Tryd.underlying44 h
    rw [cells_E] at hl
    obtain ⟨c0, c1, c2, c3, rfl⟩ := list4 hl
    have q0 : ∃ yi, DataW.trod enc Tryd.prog W 0 (fun _ => true) true n 3 ((([c0, c1, c2, c3] : List Value).drop 0).take (Tryd.prog.cellsOf 3)) = some yi ∧ ∀ m ∈ yi.1.weights Tryd.prog 3, m ∈ y.1.weights Tryd.prog 44 := hf 0 _ rfl
    obtain ⟨y0, q0, w0⟩ := q0
    have g0 : DataW.trod enc Tryd.prog W 0 (fun _ => true) true n 3 [c0] = some y0 := by rw [cells_1 (t := 3) (by kernel_rfl)] at q0; exact q0
    replace w0 : ∀ m ∈ y0.1.weights Tryd.prog 3, m ≤ reachBytes := fun m hm => hw m (w0 m hm)
    clear q0
    have q1 : ∃ yi, DataW.trod enc Tryd.prog W 0 (fun _ => true) true n 41 ((([c0, c1, c2, c3] : List Value).drop 1).take (Tryd.prog.cellsOf 41)) = some yi ∧ ∀ m ∈ yi.1.weights Tryd.prog 41, m ∈ y.1.weights Tryd.prog 44 := hf 1 _ rfl
    obtain ⟨y1, q1, w1⟩ := q1
    have g1 : DataW.trod enc Tryd.prog W 0 (fun _ => true) true n 41 [c1] = some y1 := by rw [cells_1 (t := 41) (by kernel_rfl)] at q1; exact q1
    replace w1 : ∀ m ∈ y1.1.weights Tryd.prog 41, m ≤ reachBytes := fun m hm => hw m (w1 m hm)
    clear q1
    have q2 : ∃ yi, DataW.trod enc Tryd.prog W 0 (fun _ => true) true n 9 ((([c0, c1, c2, c3] : List Value).drop 2).take (Tryd.prog.cellsOf 9)) = some yi ∧ ∀ m ∈ yi.1.weights Tryd.prog 9, m ∈ y.1.weights Tryd.prog 44 := hf 2 _ rfl
    obtain ⟨y2, q2, w2⟩ := q2
    have g2 : DataW.trod enc Tryd.prog W 0 (fun _ => true) true n 9 [c2] = some y2 := by rw [cells_1 (t := 9) (by kernel_rfl)] at q2; exact q2
    replace w2 : ∀ m ∈ y2.1.weights Tryd.prog 9, m ≤ reachBytes := fun m hm => hw m (w2 m hm)
    clear q2
    have q3 : ∃ yi, DataW.trod enc Tryd.prog W 0 (fun _ => true) true n 42 ((([c0, c1, c2, c3] : List Value).drop 3).take (Tryd.prog.cellsOf 42)) = some yi ∧ ∀ m ∈ yi.1.weights Tryd.prog 42, m ∈ y.1.weights Tryd.prog 44 := hf 3 _ rfl
    obtain ⟨y3, q3, w3⟩ := q3
    have g3 : DataW.trod enc Tryd.prog W 0 (fun _ => true) true n 42 [c3] = some y3 := by rw [cells_1 (t := 42) (by kernel_rfl)] at q3; exact q3
    replace w3 : ∀ m ∈ y3.1.weights Tryd.prog 42, m ≤ reachBytes := fun m hm => hw m (w3 m hm)
    clear q3
    obtain ⟨z0, e0, _, k0⟩ := DataW.trod_int Tryd.underlying3 g0
    obtain rfl := List.singleton_inj.1 e0
    have b0 := bounds_i64 k0
    obtain ⟨z1, e1, _, k1⟩ := DataW.trod_int Tryd.underlying41 g1
    obtain rfl := List.singleton_inj.1 e1
    obtain ⟨m1, rfl, b1⟩ := nat_of_wf64 k1
    obtain ⟨s2, e2, b2⟩ := open_str g2 w2
    obtain rfl := e2
    clear hf hl
    obtain ⟨a, c, l, e3, hlc, hcm, _, hall⟩ := slice_of E.cs (InE W) Tryd.underlying42 cells_E (by decide) (Nat.le_of_ble_eq_true (by kernel_rfl)) (fun m hm => ih m (by omega)) g3 w3
    obtain rfl := List.singleton_inj.1 e3
    refine ⟨.mk z0 m1 s2 a c l, rfl, InE.eq.2 ⟨⟨b0.1, b0.2, b1, hlc, by unfold maxLen at hcm; exact hcm, b2⟩, InEs.mk l 0 (fun i x hi => ?_)⟩⟩
    rw [Nat.zero_add]
    exact ⟨At4.of (hall i x hi).1, (hall i x hi).2⟩
def S.cs (x : S) : List Value := [.int .i64 x.kind, .string x.name, .bool x.typed, .int .i64 x.t.k, .int .i64 x.t.b, .int .i64 x.t.n, .int .i64 x.e.op, .int .u64 (x.e.val : Int), .string x.e.name, .slice x.e.a x.e.args.length x.e.cap, .int .i64 x.lo, .int .i64 x.hi, .slice x.a x.body.length x.cap]
theorem AtS.of {a : Option Addr} {i : Nat} {e : S} (h : AtG W 13 a i e.cs) : AtS W a i e := by
  obtain ⟨b, o, rfl, h⟩ := h
  exact ⟨b, o, rfl, h 0 _ rfl, h 1 _ rfl, h 2 _ rfl, h 3 _ rfl, h 4 _ rfl, h 5 _ rfl, h 6 _ rfl, h 7 _ rfl, h 8 _ rfl, h 9 _ rfl, h 10 _ rfl, h 11 _ rfl, h 12 _ rfl⟩
def P.cs (x : P) : List Value := [.string x.name, .int .i64 x.t.k, .int .i64 x.t.b, .int .i64 x.t.n]
theorem AtP.of {a : Option Addr} {i : Nat} {e : P} (h : AtG W 4 a i e.cs) : AtP W a i e := by
  obtain ⟨b, o, rfl, h⟩ := h
  exact ⟨b, o, rfl, h 0 _ rfl, h 1 _ rfl, h 2 _ rfl, h 3 _ rfl⟩
def D.cs (x : D) : List Value := [.bool x.pub, .string x.name, .int .i64 x.t.k, .int .i64 x.t.b, .int .i64 x.t.n]
theorem AtD.of {a : Option Addr} {i : Nat} {e : D} (h : AtG W 5 a i e.cs) : AtD W a i e := by
  obtain ⟨b, o, rfl, h⟩ := h
  exact ⟨b, o, rfl, h 0 _ rfl, h 1 _ rfl, h 2 _ rfl, h 3 _ rfl, h 4 _ rfl⟩
def F.cs (x : F) : List Value := [.string x.name, .slice x.pa x.params.length x.pc, .int .i64 x.t.k, .int .i64 x.t.b, .int .i64 x.t.n, .slice x.ba x.body.length x.bc, .int .i64 x.e.op, .int .u64 (x.e.val : Int), .string x.e.name, .slice x.e.a x.e.args.length x.e.cap]
theorem AtF.of {a : Option Addr} {i : Nat} {e : F} (h : AtG W 10 a i e.cs) : AtF W a i e := by
  obtain ⟨b, o, rfl, h⟩ := h
  exact ⟨b, o, rfl, h 0 _ rfl, h 1 _ rfl, h 2 _ rfl, h 3 _ rfl, h 4 _ rfl, h 5 _ rfl, h 6 _ rfl, h 7 _ rfl, h 8 _ rfl, h 9 _ rfl⟩
theorem op_P {fuel : Nat} {cs : List Value} {y : DataW H × List MemPlace} (h : DataW.trod enc Tryd.prog W 0 (fun _ => true) true fuel 53 cs = some y) (hw : ∀ m ∈ y.1.weights Tryd.prog 53, m ≤ reachBytes) : ∃ t : P, cs = t.cs ∧ InP W t := by
  obtain ⟨n, hfu, hl, hf⟩ := trod_fields Tryd.underlying53 h
  rw [cells_P] at hl
  obtain ⟨c0, c1, c2, c3, rfl⟩ := list4 hl
  have q0 : ∃ yi, DataW.trod enc Tryd.prog W 0 (fun _ => true) true n 9 ((([c0, c1, c2, c3] : List Value).drop 0).take (Tryd.prog.cellsOf 9)) = some yi ∧ ∀ m ∈ yi.1.weights Tryd.prog 9, m ∈ y.1.weights Tryd.prog 53 := hf 0 _ rfl
  obtain ⟨y0, q0, w0⟩ := q0
  have g0 : DataW.trod enc Tryd.prog W 0 (fun _ => true) true n 9 [c0] = some y0 := by rw [cells_1 (t := 9) (by kernel_rfl)] at q0; exact q0
  replace w0 : ∀ m ∈ y0.1.weights Tryd.prog 9, m ≤ reachBytes := fun m hm => hw m (w0 m hm)
  clear q0
  have q1 : ∃ yi, DataW.trod enc Tryd.prog W 0 (fun _ => true) true n 33 ((([c0, c1, c2, c3] : List Value).drop 1).take (Tryd.prog.cellsOf 33)) = some yi ∧ ∀ m ∈ yi.1.weights Tryd.prog 33, m ∈ y.1.weights Tryd.prog 53 := hf 1 _ rfl
  obtain ⟨y1, q1, w1⟩ := q1
  have g1 : DataW.trod enc Tryd.prog W 0 (fun _ => true) true n 33 [c1, c2, c3] = some y1 := by rw [cells_Ty] at q1; exact q1
  replace w1 : ∀ m ∈ y1.1.weights Tryd.prog 33, m ≤ reachBytes := fun m hm => hw m (w1 m hm)
  clear q1
  obtain ⟨s0, e0, b0⟩ := open_str g0 w0
  obtain rfl := e0
  obtain ⟨t1, e1, tb1⟩ := op_Ty g1 w1
  simp only [List.cons.injEq, and_true] at e1
  obtain ⟨rfl, rfl, rfl⟩ := e1
  clear hf hl
  exact ⟨⟨s0, t1⟩, rfl, tb1, b0⟩
theorem op_D {fuel : Nat} {cs : List Value} {y : DataW H × List MemPlace} (h : DataW.trod enc Tryd.prog W 0 (fun _ => true) true fuel 55 cs = some y) (hw : ∀ m ∈ y.1.weights Tryd.prog 55, m ≤ reachBytes) : ∃ t : D, cs = t.cs ∧ InD W t := by
  obtain ⟨n, hfu, hl, hf⟩ := trod_fields Tryd.underlying55 h
  rw [cells_D] at hl
  obtain ⟨c0, c1, c2, c3, c4, rfl⟩ := list5 hl
  have q0 : ∃ yi, DataW.trod enc Tryd.prog W 0 (fun _ => true) true n 4 ((([c0, c1, c2, c3, c4] : List Value).drop 0).take (Tryd.prog.cellsOf 4)) = some yi ∧ ∀ m ∈ yi.1.weights Tryd.prog 4, m ∈ y.1.weights Tryd.prog 55 := hf 0 _ rfl
  obtain ⟨y0, q0, w0⟩ := q0
  have g0 : DataW.trod enc Tryd.prog W 0 (fun _ => true) true n 4 [c0] = some y0 := by rw [cells_1 (t := 4) (by kernel_rfl)] at q0; exact q0
  replace w0 : ∀ m ∈ y0.1.weights Tryd.prog 4, m ≤ reachBytes := fun m hm => hw m (w0 m hm)
  clear q0
  have q1 : ∃ yi, DataW.trod enc Tryd.prog W 0 (fun _ => true) true n 9 ((([c0, c1, c2, c3, c4] : List Value).drop 1).take (Tryd.prog.cellsOf 9)) = some yi ∧ ∀ m ∈ yi.1.weights Tryd.prog 9, m ∈ y.1.weights Tryd.prog 55 := hf 1 _ rfl
  obtain ⟨y1, q1, w1⟩ := q1
  have g1 : DataW.trod enc Tryd.prog W 0 (fun _ => true) true n 9 [c1] = some y1 := by rw [cells_1 (t := 9) (by kernel_rfl)] at q1; exact q1
  replace w1 : ∀ m ∈ y1.1.weights Tryd.prog 9, m ≤ reachBytes := fun m hm => hw m (w1 m hm)
  clear q1
  have q2 : ∃ yi, DataW.trod enc Tryd.prog W 0 (fun _ => true) true n 33 ((([c0, c1, c2, c3, c4] : List Value).drop 2).take (Tryd.prog.cellsOf 33)) = some yi ∧ ∀ m ∈ yi.1.weights Tryd.prog 33, m ∈ y.1.weights Tryd.prog 55 := hf 2 _ rfl
  obtain ⟨y2, q2, w2⟩ := q2
  have g2 : DataW.trod enc Tryd.prog W 0 (fun _ => true) true n 33 [c2, c3, c4] = some y2 := by rw [cells_Ty] at q2; exact q2
  replace w2 : ∀ m ∈ y2.1.weights Tryd.prog 33, m ≤ reachBytes := fun m hm => hw m (w2 m hm)
  clear q2
  obtain ⟨b0, e0, _⟩ := DataW.trod_bool Tryd.underlying4 g0
  obtain rfl := List.singleton_inj.1 e0
  obtain ⟨s1, e1, b1⟩ := open_str g1 w1
  obtain rfl := e1
  obtain ⟨t2, e2, tb2⟩ := op_Ty g2 w2
  simp only [List.cons.injEq, and_true] at e2
  obtain ⟨rfl, rfl, rfl⟩ := e2
  clear hf hl
  exact ⟨⟨b0, s1, t2⟩, rfl, tb2, b1⟩
theorem InSs.mk {a : Option Addr} : ∀ (l : List S) (k : Nat), (∀ (i : Nat) x, l[i]? = some x → AtS W a (k + i) x ∧ InS W x) → InSs W a k l
  | [], _, _ => by unfold InSs; trivial
  | x :: l, k, h => InSs.cons.2 ⟨(h 0 x rfl).1, (h 0 x rfl).2, InSs.mk l (k + 1) (fun i u hu => by have := h (i + 1) u (by simpa using hu); rw [show k + (i + 1) = k + 1 + i by omega] at this; exact this)⟩
theorem op_S : ∀ (fuel : Nat) (cs : List Value) (y : DataW H × List MemPlace), DataW.trod enc Tryd.prog W 0 (fun _ => true) true fuel 61 cs = some y → (∀ m ∈ y.1.weights Tryd.prog 61, m ≤ reachBytes) → ∃ e : S, cs = e.cs ∧ InS W e := by
  intro fuel
  induction fuel using Nat.strongRecOn with
  | _ fuel ih =>
    intro cs y h hw
    obtain ⟨n, hfu, hl, hf⟩ := trod_fields Tryd.underlying61 h
    rw [cells_S] at hl
    obtain ⟨c0, c1, c2, c3, c4, c5, c6, c7, c8, c9, c10, c11, c12, rfl⟩ := list13 hl
    have q0 : ∃ yi, DataW.trod enc Tryd.prog W 0 (fun _ => true) true n 3 ((([c0, c1, c2, c3, c4, c5, c6, c7, c8, c9, c10, c11, c12] : List Value).drop 0).take (Tryd.prog.cellsOf 3)) = some yi ∧ ∀ m ∈ yi.1.weights Tryd.prog 3, m ∈ y.1.weights Tryd.prog 61 := hf 0 _ rfl
    obtain ⟨y0, q0, w0⟩ := q0
    have g0 : DataW.trod enc Tryd.prog W 0 (fun _ => true) true n 3 [c0] = some y0 := by rw [cells_1 (t := 3) (by kernel_rfl)] at q0; exact q0
    replace w0 : ∀ m ∈ y0.1.weights Tryd.prog 3, m ≤ reachBytes := fun m hm => hw m (w0 m hm)
    clear q0
    have q1 : ∃ yi, DataW.trod enc Tryd.prog W 0 (fun _ => true) true n 9 ((([c0, c1, c2, c3, c4, c5, c6, c7, c8, c9, c10, c11, c12] : List Value).drop 1).take (Tryd.prog.cellsOf 9)) = some yi ∧ ∀ m ∈ yi.1.weights Tryd.prog 9, m ∈ y.1.weights Tryd.prog 61 := hf 1 _ rfl
    obtain ⟨y1, q1, w1⟩ := q1
    have g1 : DataW.trod enc Tryd.prog W 0 (fun _ => true) true n 9 [c1] = some y1 := by rw [cells_1 (t := 9) (by kernel_rfl)] at q1; exact q1
    replace w1 : ∀ m ∈ y1.1.weights Tryd.prog 9, m ≤ reachBytes := fun m hm => hw m (w1 m hm)
    clear q1
    have q2 : ∃ yi, DataW.trod enc Tryd.prog W 0 (fun _ => true) true n 4 ((([c0, c1, c2, c3, c4, c5, c6, c7, c8, c9, c10, c11, c12] : List Value).drop 2).take (Tryd.prog.cellsOf 4)) = some yi ∧ ∀ m ∈ yi.1.weights Tryd.prog 4, m ∈ y.1.weights Tryd.prog 61 := hf 2 _ rfl
    obtain ⟨y2, q2, w2⟩ := q2
    have g2 : DataW.trod enc Tryd.prog W 0 (fun _ => true) true n 4 [c2] = some y2 := by rw [cells_1 (t := 4) (by kernel_rfl)] at q2; exact q2
    replace w2 : ∀ m ∈ y2.1.weights Tryd.prog 4, m ≤ reachBytes := fun m hm => hw m (w2 m hm)
    clear q2
    have q3 : ∃ yi, DataW.trod enc Tryd.prog W 0 (fun _ => true) true n 33 ((([c0, c1, c2, c3, c4, c5, c6, c7, c8, c9, c10, c11, c12] : List Value).drop 3).take (Tryd.prog.cellsOf 33)) = some yi ∧ ∀ m ∈ yi.1.weights Tryd.prog 33, m ∈ y.1.weights Tryd.prog 61 := hf 3 _ rfl
    obtain ⟨y3, q3, w3⟩ := q3
    have g3 : DataW.trod enc Tryd.prog W 0 (fun _ => true) true n 33 [c3, c4, c5] = some y3 := by rw [cells_Ty] at q3; exact q3
    replace w3 : ∀ m ∈ y3.1.weights Tryd.prog 33, m ≤ reachBytes := fun m hm => hw m (w3 m hm)
    clear q3
    have q4 : ∃ yi, DataW.trod enc Tryd.prog W 0 (fun _ => true) true n 44 ((([c0, c1, c2, c3, c4, c5, c6, c7, c8, c9, c10, c11, c12] : List Value).drop 6).take (Tryd.prog.cellsOf 44)) = some yi ∧ ∀ m ∈ yi.1.weights Tryd.prog 44, m ∈ y.1.weights Tryd.prog 61 := hf 4 _ rfl
    obtain ⟨y4, q4, w4⟩ := q4
    have g4 : DataW.trod enc Tryd.prog W 0 (fun _ => true) true n 44 [c6, c7, c8, c9] = some y4 := by rw [cells_E] at q4; exact q4
    replace w4 : ∀ m ∈ y4.1.weights Tryd.prog 44, m ≤ reachBytes := fun m hm => hw m (w4 m hm)
    clear q4
    have q5 : ∃ yi, DataW.trod enc Tryd.prog W 0 (fun _ => true) true n 3 ((([c0, c1, c2, c3, c4, c5, c6, c7, c8, c9, c10, c11, c12] : List Value).drop 10).take (Tryd.prog.cellsOf 3)) = some yi ∧ ∀ m ∈ yi.1.weights Tryd.prog 3, m ∈ y.1.weights Tryd.prog 61 := hf 5 _ rfl
    obtain ⟨y5, q5, w5⟩ := q5
    have g5 : DataW.trod enc Tryd.prog W 0 (fun _ => true) true n 3 [c10] = some y5 := by rw [cells_1 (t := 3) (by kernel_rfl)] at q5; exact q5
    replace w5 : ∀ m ∈ y5.1.weights Tryd.prog 3, m ≤ reachBytes := fun m hm => hw m (w5 m hm)
    clear q5
    have q6 : ∃ yi, DataW.trod enc Tryd.prog W 0 (fun _ => true) true n 3 ((([c0, c1, c2, c3, c4, c5, c6, c7, c8, c9, c10, c11, c12] : List Value).drop 11).take (Tryd.prog.cellsOf 3)) = some yi ∧ ∀ m ∈ yi.1.weights Tryd.prog 3, m ∈ y.1.weights Tryd.prog 61 := hf 6 _ rfl
    obtain ⟨y6, q6, w6⟩ := q6
    have g6 : DataW.trod enc Tryd.prog W 0 (fun _ => true) true n 3 [c11] = some y6 := by rw [cells_1 (t := 3) (by kernel_rfl)] at q6; exact q6
    replace w6 : ∀ m ∈ y6.1.weights Tryd.prog 3, m ≤ reachBytes := fun m hm => hw m (w6 m hm)
    clear q6
    have q7 : ∃ yi, DataW.trod enc Tryd.prog W 0 (fun _ => true) true n 24 ((([c0, c1, c2, c3, c4, c5, c6, c7, c8, c9, c10, c11, c12] : List Value).drop 12).take (Tryd.prog.cellsOf 24)) = some yi ∧ ∀ m ∈ yi.1.weights Tryd.prog 24, m ∈ y.1.weights Tryd.prog 61 := hf 7 _ rfl
    obtain ⟨y7, q7, w7⟩ := q7
    have g7 : DataW.trod enc Tryd.prog W 0 (fun _ => true) true n 24 [c12] = some y7 := by rw [cells_1 (t := 24) (by kernel_rfl)] at q7; exact q7
    replace w7 : ∀ m ∈ y7.1.weights Tryd.prog 24, m ≤ reachBytes := fun m hm => hw m (w7 m hm)
    clear q7
    obtain ⟨z0, e0, _, k0⟩ := DataW.trod_int Tryd.underlying3 g0
    obtain rfl := List.singleton_inj.1 e0
    have b0 := bounds_i64 k0
    obtain ⟨s1, e1, b1⟩ := open_str g1 w1
    obtain rfl := e1
    obtain ⟨b2, e2, _⟩ := DataW.trod_bool Tryd.underlying4 g2
    obtain rfl := List.singleton_inj.1 e2
    obtain ⟨t3, e3, tb3⟩ := op_Ty g3 w3
    simp only [List.cons.injEq, and_true] at e3
    obtain ⟨rfl, rfl, rfl⟩ := e3
    obtain ⟨x4, e4, ie4⟩ := op_E _ _ _ g4 w4
    simp only [E.cs, List.cons.injEq, and_true] at e4
    obtain ⟨rfl, rfl, rfl, rfl⟩ := e4
    obtain ⟨z5, e5, _, k5⟩ := DataW.trod_int Tryd.underlying3 g5
    obtain rfl := List.singleton_inj.1 e5
    have b5 := bounds_i64 k5
    obtain ⟨z6, e6, _, k6⟩ := DataW.trod_int Tryd.underlying3 g6
    obtain rfl := List.singleton_inj.1 e6
    have b6 := bounds_i64 k6
    clear hf hl
    obtain ⟨a, c, l, e7, hlc, hcm, hle, hall⟩ := slice_of S.cs (InS W) Tryd.underlying24 cells_S (by decide) (Nat.le_of_ble_eq_true (by kernel_rfl)) (fun m hm => ih m (by omega)) g7 w7
    obtain rfl := List.singleton_inj.1 e7
    refine ⟨.mk z0 s1 b2 t3 x4 z5 z6 a c l, rfl, InS.eq.2 ⟨⟨b0.1, b0.2, b5.1, b5.2, b6.1, b6.2, tb3, hle, b1⟩, ie4, InSs.mk l 0 (fun i x hi => ?_)⟩⟩
    rw [Nat.zero_add]
    exact ⟨AtS.of (hall i x hi).1, (hall i x hi).2⟩
theorem InB.mk {a : Option Addr} {l : List S} (h : ∀ (i : Nat) x, l[i]? = some x → AtG W 13 a i x.cs ∧ InS W x) (hl : l.length ≤ 140737488355328) : InB W a l := ⟨InSs.mk l 0 (fun i x hi => by rw [Nat.zero_add]; exact ⟨AtS.of (h i x hi).1, (h i x hi).2⟩), hl⟩
theorem op_F {fuel : Nat} {cs : List Value} {y : DataW H × List MemPlace} (h : DataW.trod enc Tryd.prog W 0 (fun _ => true) true fuel 50 cs = some y) (hw : ∀ m ∈ y.1.weights Tryd.prog 50, m ≤ reachBytes) : ∃ t : F, cs = t.cs ∧ InF W t := by
  obtain ⟨n, hfu, hl, hf⟩ := trod_fields Tryd.underlying50 h
  rw [cells_F] at hl
  obtain ⟨c0, c1, c2, c3, c4, c5, c6, c7, c8, c9, rfl⟩ := list10 hl
  have q0 : ∃ yi, DataW.trod enc Tryd.prog W 0 (fun _ => true) true n 9 ((([c0, c1, c2, c3, c4, c5, c6, c7, c8, c9] : List Value).drop 0).take (Tryd.prog.cellsOf 9)) = some yi ∧ ∀ m ∈ yi.1.weights Tryd.prog 9, m ∈ y.1.weights Tryd.prog 50 := hf 0 _ rfl
  obtain ⟨y0, q0, w0⟩ := q0
  have g0 : DataW.trod enc Tryd.prog W 0 (fun _ => true) true n 9 [c0] = some y0 := by rw [cells_1 (t := 9) (by kernel_rfl)] at q0; exact q0
  replace w0 : ∀ m ∈ y0.1.weights Tryd.prog 9, m ≤ reachBytes := fun m hm => hw m (w0 m hm)
  clear q0
  have q1 : ∃ yi, DataW.trod enc Tryd.prog W 0 (fun _ => true) true n 48 ((([c0, c1, c2, c3, c4, c5, c6, c7, c8, c9] : List Value).drop 1).take (Tryd.prog.cellsOf 48)) = some yi ∧ ∀ m ∈ yi.1.weights Tryd.prog 48, m ∈ y.1.weights Tryd.prog 50 := hf 1 _ rfl
  obtain ⟨y1, q1, w1⟩ := q1
  have g1 : DataW.trod enc Tryd.prog W 0 (fun _ => true) true n 48 [c1] = some y1 := by rw [cells_1 (t := 48) (by kernel_rfl)] at q1; exact q1
  replace w1 : ∀ m ∈ y1.1.weights Tryd.prog 48, m ≤ reachBytes := fun m hm => hw m (w1 m hm)
  clear q1
  have q2 : ∃ yi, DataW.trod enc Tryd.prog W 0 (fun _ => true) true n 33 ((([c0, c1, c2, c3, c4, c5, c6, c7, c8, c9] : List Value).drop 2).take (Tryd.prog.cellsOf 33)) = some yi ∧ ∀ m ∈ yi.1.weights Tryd.prog 33, m ∈ y.1.weights Tryd.prog 50 := hf 2 _ rfl
  obtain ⟨y2, q2, w2⟩ := q2
  have g2 : DataW.trod enc Tryd.prog W 0 (fun _ => true) true n 33 [c2, c3, c4] = some y2 := by rw [cells_Ty] at q2; exact q2
  replace w2 : ∀ m ∈ y2.1.weights Tryd.prog 33, m ≤ reachBytes := fun m hm => hw m (w2 m hm)
  clear q2
  have q3 : ∃ yi, DataW.trod enc Tryd.prog W 0 (fun _ => true) true n 24 ((([c0, c1, c2, c3, c4, c5, c6, c7, c8, c9] : List Value).drop 5).take (Tryd.prog.cellsOf 24)) = some yi ∧ ∀ m ∈ yi.1.weights Tryd.prog 24, m ∈ y.1.weights Tryd.prog 50 := hf 3 _ rfl
  obtain ⟨y3, q3, w3⟩ := q3
  have g3 : DataW.trod enc Tryd.prog W 0 (fun _ => true) true n 24 [c5] = some y3 := by rw [cells_1 (t := 24) (by kernel_rfl)] at q3; exact q3
  replace w3 : ∀ m ∈ y3.1.weights Tryd.prog 24, m ≤ reachBytes := fun m hm => hw m (w3 m hm)
  clear q3
  have q4 : ∃ yi, DataW.trod enc Tryd.prog W 0 (fun _ => true) true n 44 ((([c0, c1, c2, c3, c4, c5, c6, c7, c8, c9] : List Value).drop 6).take (Tryd.prog.cellsOf 44)) = some yi ∧ ∀ m ∈ yi.1.weights Tryd.prog 44, m ∈ y.1.weights Tryd.prog 50 := hf 4 _ rfl
  obtain ⟨y4, q4, w4⟩ := q4
  have g4 : DataW.trod enc Tryd.prog W 0 (fun _ => true) true n 44 [c6, c7, c8, c9] = some y4 := by rw [cells_E] at q4; exact q4
  replace w4 : ∀ m ∈ y4.1.weights Tryd.prog 44, m ≤ reachBytes := fun m hm => hw m (w4 m hm)
  clear q4
  obtain ⟨s0, e0, b0⟩ := open_str g0 w0
  obtain rfl := e0
  obtain ⟨a1, c1_, l1, e1, hlc1, hcm1, hle1, hall1⟩ := slice_of P.cs (InP W) Tryd.underlying48 cells_P (by decide) (Nat.le_of_ble_eq_true (by kernel_rfl)) (fun _ _ _ _ h2 w2 => op_P h2 w2) g1 w1
  obtain rfl := List.singleton_inj.1 e1
  obtain ⟨t2, e2, tb2⟩ := op_Ty g2 w2
  simp only [List.cons.injEq, and_true] at e2
  obtain ⟨rfl, rfl, rfl⟩ := e2
  obtain ⟨a3, c3_, l3, e3, hlc3, hcm3, hle3, hall3⟩ := slice_of S.cs (InS W) Tryd.underlying24 cells_S (by decide) (Nat.le_of_ble_eq_true (by kernel_rfl)) (fun m _ cs y h2 w2 => op_S m cs y h2 w2) g3 w3
  obtain rfl := List.singleton_inj.1 e3
  obtain ⟨x4, e4, ie4⟩ := op_E _ _ _ g4 w4
  simp only [E.cs, List.cons.injEq, and_true] at e4
  obtain ⟨rfl, rfl, rfl, rfl⟩ := e4
  clear hf hl
  exact ⟨⟨s0, a1, c1_, l1, t2, a3, c3_, l3, x4⟩, rfl, tb2, b0, ⟨fun i x hi => ⟨AtP.of (hall1 i x hi).1, (hall1 i x hi).2⟩, hle1⟩, InB.mk hall3 hle3, ie4⟩
def G.cs (x : G) : List Value := [.slice x.fa x.funcs.length x.fc, .slice x.da x.decls.length x.dc, .slice x.ba x.body.length x.bc]
theorem op_G {fuel : Nat} {cs : List Value} {y : DataW H × List MemPlace} (h : DataW.trod enc Tryd.prog W 0 (fun _ => true) true fuel 26 cs = some y) (hw : ∀ m ∈ y.1.weights Tryd.prog 26, m ≤ reachBytes) : ∃ t : G, cs = t.cs ∧ InG W t := by
  obtain ⟨n, hfu, hl, hf⟩ := trod_fields Tryd.underlying26 h
  rw [cells_G] at hl
  obtain ⟨c0, c1, c2, rfl⟩ := list3 hl
  have q0 : ∃ yi, DataW.trod enc Tryd.prog W 0 (fun _ => true) true n 22 ((([c0, c1, c2] : List Value).drop 0).take (Tryd.prog.cellsOf 22)) = some yi ∧ ∀ m ∈ yi.1.weights Tryd.prog 22, m ∈ y.1.weights Tryd.prog 26 := hf 0 _ rfl
  obtain ⟨y0, q0, w0⟩ := q0
  have g0 : DataW.trod enc Tryd.prog W 0 (fun _ => true) true n 22 [c0] = some y0 := by rw [cells_1 (t := 22) (by kernel_rfl)] at q0; exact q0
  replace w0 : ∀ m ∈ y0.1.weights Tryd.prog 22, m ≤ reachBytes := fun m hm => hw m (w0 m hm)
  clear q0
  have q1 : ∃ yi, DataW.trod enc Tryd.prog W 0 (fun _ => true) true n 23 ((([c0, c1, c2] : List Value).drop 1).take (Tryd.prog.cellsOf 23)) = some yi ∧ ∀ m ∈ yi.1.weights Tryd.prog 23, m ∈ y.1.weights Tryd.prog 26 := hf 1 _ rfl
  obtain ⟨y1, q1, w1⟩ := q1
  have g1 : DataW.trod enc Tryd.prog W 0 (fun _ => true) true n 23 [c1] = some y1 := by rw [cells_1 (t := 23) (by kernel_rfl)] at q1; exact q1
  replace w1 : ∀ m ∈ y1.1.weights Tryd.prog 23, m ≤ reachBytes := fun m hm => hw m (w1 m hm)
  clear q1
  have q2 : ∃ yi, DataW.trod enc Tryd.prog W 0 (fun _ => true) true n 24 ((([c0, c1, c2] : List Value).drop 2).take (Tryd.prog.cellsOf 24)) = some yi ∧ ∀ m ∈ yi.1.weights Tryd.prog 24, m ∈ y.1.weights Tryd.prog 26 := hf 2 _ rfl
  obtain ⟨y2, q2, w2⟩ := q2
  have g2 : DataW.trod enc Tryd.prog W 0 (fun _ => true) true n 24 [c2] = some y2 := by rw [cells_1 (t := 24) (by kernel_rfl)] at q2; exact q2
  replace w2 : ∀ m ∈ y2.1.weights Tryd.prog 24, m ≤ reachBytes := fun m hm => hw m (w2 m hm)
  clear q2
  obtain ⟨a0, c0_, l0, e0, hlc0, hcm0, hle0, hall0⟩ := slice_of F.cs (InF W) Tryd.underlying22 cells_F (by decide) (Nat.le_of_ble_eq_true (by kernel_rfl)) (fun _ _ _ _ h2 w2 => op_F h2 w2) g0 w0
  obtain rfl := List.singleton_inj.1 e0
  obtain ⟨a1, c1_, l1, e1, hlc1, hcm1, hle1, hall1⟩ := slice_of D.cs (InD W) Tryd.underlying23 cells_D (by decide) (Nat.le_of_ble_eq_true (by kernel_rfl)) (fun _ _ _ _ h2 w2 => op_D h2 w2) g1 w1
  obtain rfl := List.singleton_inj.1 e1
  obtain ⟨a2, c2_, l2, e2, hlc2, hcm2, hle2, hall2⟩ := slice_of S.cs (InS W) Tryd.underlying24 cells_S (by decide) (Nat.le_of_ble_eq_true (by kernel_rfl)) (fun m _ cs y h2 w2 => op_S m cs y h2 w2) g2 w2
  obtain rfl := List.singleton_inj.1 e2
  clear hf hl
  exact ⟨⟨a0, c0_, l0, a1, c1_, l1, a2, c2_, l2⟩, rfl, ⟨fun i x hi => ⟨AtF.of (hall0 i x hi).1, (hall0 i x hi).2⟩, hle0⟩, ⟨fun i x hi => ⟨AtD.of (hall1 i x hi).1, (hall1 i x hi).2⟩, hle1⟩, InB.mk hall2 hle2⟩
set_option maxRecDepth 100000 in
theorem open_prog {r : Reach} {b0 : Nat} {v : Value} {d : DataW H} {ps : List MemPlace} (hv : Value.okWide Tryd.prog W r b0 26 v) (h : DataW.Trod enc Tryd.prog W 0 (fun _ => true) true 26 v d ps) (hw : ∀ m ∈ d.weights Tryd.prog 26, m ≤ reachBytes) : ∃ x : G, v = x.v ∧ InG W x := by
  obtain ⟨cs, rfl, hsz⟩ := okWide_struct Tryd.underlying26 hv
  obtain ⟨fuel, hf⟩ := h
  obtain ⟨x, hx, hin⟩ := op_G hf hw
  refine ⟨x, ?_, hin⟩
  obtain ⟨l⟩ := cs
  have hx' : l = x.cs := hx
  rw [hx']; rfl
end
end Go.Proofs.YtcheigpejbmaoaaDoor
