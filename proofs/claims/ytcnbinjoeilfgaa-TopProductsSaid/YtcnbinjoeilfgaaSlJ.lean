/- Slices of int: words for memory. Turned by gen/slints.py from XSlice, XApp. -/
import Derived.Test.YtcnbinjoeilfgaaTr2
import Derived.Test.YtcnbinjoeilfgaaGS
namespace Go.Proofs.Ytcnbinjoeilfgaa
open Go.RowKit

/-- Numbers as the cells of a row. -/
def rowLI (l : List Int) : List Value := l.map fun (x : Int) => Value.int .i64 x
def rowAI (l : List Int) : Array Value := (rowLI l).toArray
theorem rowL_lenI (l : List Int) : (rowLI l).length = l.length := by simp [rowLI]
theorem rowA_sizeI (l : List Int) : (rowAI l).size = l.length := by simp [rowAI, rowLI]
theorem rowL_getI (l : List Int) (i : Nat) (h : i < l.length) : (rowLI l)[i]? = some (.int .i64 (l.getD i 0)) := by
  simp [rowLI, h, List.getD]
theorem rowA_getI (l : List Int) (i : Nat) (h : i < l.length) : (rowAI l)[i]? = some (.int .i64 (l.getD i 0)) := by
  simp only [rowAI, List.getElem?_toArray]; exact rowL_getI l i h
theorem rowA_setI (l : List Int) (i : Nat) (x : Int) : (rowAI l).setIfInBounds i (.int .i64 x) = rowAI (l.set i x) := by
  simp [rowAI, rowLI, List.map_set]
theorem rowL_appI (l m : List Int) : rowLI (l ++ m) = rowLI l ++ rowLI m := by simp [rowLI]
theorem one_rowLI (l : List Int) : ∀ u ∈ rowLI l, u.oneCell' = true := by
  intro u hu
  simp only [rowLI, List.mem_map] at hu
  obtain ⟨x, _, rfl⟩ := hu
  rfl

/-- A slice at address a reads as the numbers l. -/
def RdI (w : World) (a : Option Addr) (l : List Int) : Prop :=
  l = [] ∨ ∃ b off, a = some ⟨b, off, none⟩ ∧ ∀ i, i < l.length → w.cell? ⟨b, off + i, none⟩ = some (.int .i64 (l.getD i 0))
theorem RdI.nil (w : World) (a : Option Addr) : RdI w a [] := .inl rfl
theorem RdI.ext {w w' : World} {a : Option Addr} {l : List Int} (h : RdI w a l) (hx : Ext w w') : RdI w' a l := by
  rcases h with h | ⟨b, off, ha, hc⟩
  · exact .inl h
  · exact .inr ⟨b, off, ha, fun i hi => hx.cell (hc i hi)⟩
theorem RdI.at {w : World} {a : Option Addr} {l : List Int} (h : RdI w a l) (hl : 0 < l.length) : ∃ b off, a = some ⟨b, off, none⟩ ∧ ∀ i, i < l.length → w.cell? ⟨b, off + i, none⟩ = some (.int .i64 (l.getD i 0)) := by
  rcases h with h | h
  · subst h; simp at hl
  · exact h
theorem RdI.take {w : World} {a : Option Addr} {l : List Int} (h : RdI w a l) (k : Nat) : RdI w a (l.take k) := by
  rcases h with h | ⟨b, off, ha, hc⟩
  · left; simp [h]
  · right
    refine ⟨b, off, ha, fun i hi => ?_⟩
    have h2 : i < k ∧ i < l.length := by simpa [List.length_take, Nat.lt_min] using hi
    rw [hc i h2.2]
    simp [List.getD, h2.1]

/-- A block that is known whole. -/
def BlkI (w : World) (g : Nat) (cs : Array Value) : Prop := w.heap[g]? = some (.cells cs 3 (0, 0))
section
variable {w w' : World} {g : Nat} {cs : Array Value}
theorem BlkI.lt (h : BlkI w g cs) : g < w.heap.size := by
  rcases Nat.lt_or_ge g w.heap.size with hlt | hge
  · exact hlt
  · unfold BlkI at h; rw [Array.getElem?_eq_none hge] at h; cases h
theorem BlkI.cell (h : BlkI w g cs) (i : Nat) : w.cell? ⟨g, i, none⟩ = cs[i]? := cell_of_row w g i cs 3 (0, 0) h
theorem BlkI.frozen (h : BlkI w g cs) (i : Nat) : w.frozen? ⟨g, i, none⟩ = false := by
  unfold BlkI at h
  simp [World.frozen?, h]
theorem BlkI.new (w : World) (cs : Array Value) : BlkI (w.alloc (.cells cs 3)) w.heap.size cs := heap_alloc_new w _
theorem BlkI.drew (h : BlkI w g cs) : BlkI w.drew g cs := h
theorem BlkI.ext (h : BlkI w g cs) (hx : Ext w w') : BlkI w' g cs := (Below.block hx g h.lt).trans h
theorem BlkI.alloc (h : BlkI w g cs) (o : Obj) : BlkI (w.alloc o) g cs := h.ext ((Ext.refl w).alloc o)
theorem BlkI.set_ (h : BlkI w g cs) (i : Nat) (u : Value) : BlkI (w.setCell ⟨g, i, none⟩ u) g (cs.setIfInBounds i u) := by
  unfold BlkI at h ⊢
  simp [World.setCell, Array.getElem?_modify, h]
theorem BlkI.setN {l : List Int} (h : BlkI w g (rowAI l)) (i : Nat) (x : Int) : BlkI (w.setCell ⟨g, i, none⟩ (.int .i64 x)) g (rowAI (l.set i x)) := by
  rw [← rowA_setI]; exact h.set_ i _
theorem BlkI.at {l : List Int} (h : BlkI w g (rowAI l)) {i : Nat} (hi : i < l.length) : w.cell? ⟨g, i, none⟩ = some (.int .i64 (l.getD i 0)) := by
  rw [h.cell, rowA_getI l i hi]
theorem BlkI.far {g' : Nat} (h : BlkI w g cs) {p : Addr} (hp : g ≠ p.block) (u : Value) (_ : g' = g') : BlkI (w.setCell p u) g cs := (Below.heap_setCell w p u g hp).trans h
theorem BlkI.rd {l m : List Int} (h : BlkI w g (rowAI (l ++ m))) : RdI w (some ⟨g, 0, none⟩) l := by
  right
  refine ⟨g, 0, rfl, fun i hi => ?_⟩
  rw [Nat.zero_add, h.at (by simp; omega)]
  simp [List.getD, List.getElem?_append_left hi]
theorem BlkI.rd' {l : List Int} (h : BlkI w g (rowAI l)) : RdI w (some ⟨g, 0, none⟩) l := BlkI.rd (m := []) (by simpa using h)
end

/-- Reading, with a frame: below block B (all of it), w' reads as w did. -/
theorem RdI.below {w w' : World} {a : Option Addr} {l : List Int} (h : RdI w a l) {w0 : World} (h0 : Ext w0 w) (hr : RdI w0 a l) (hb : Below w0.heap.size w0 w') : RdI w' a l := by
  have _ := h; have _ := h0
  exact hr.ext hb

/-- A slice of the call's own (nil, or the head of a block from base on, not frozen), its elements l. -/
def OwnI (w : World) (base : Nat) (v : Value) (l : List Int) : Prop := w.ownsRow base 3 1 v l.length (rowLI l)
theorem OwnI.nil (w : World) (base : Nat) : OwnI w base (.slice none 0 0) [] := World.ownsRow_nil _ _ _ _
theorem OwnI.grow {w w' : World} {base : Nat} {v : Value} {l : List Int} (h : OwnI w base v l) (hx : Ext w w') : OwnI w' base v l := by
  refine ⟨h.1, ?_⟩
  rcases h.2 with hn | ⟨g, cap, cur, rfl, hb, hgg, rest⟩
  · exact .inl hn
  · exact .inr ⟨g, cap, cur, rfl, hb, (Below.block hx g (Array.getElem?_eq_some_iff.1 hgg).1).trans hgg, rest⟩
theorem OwnI.base {w : World} {base base' : Nat} {v : Value} {l : List Int} (h : OwnI w base v l) (hb : base' ≤ base) : OwnI w base' v l := by
  refine ⟨h.1, ?_⟩
  rcases h.2 with hn | ⟨g, cap, cur, rfl, hg, rest⟩
  · exact .inl hn
  · exact .inr ⟨g, cap, cur, rfl, Nat.le_trans hb hg, rest⟩
/-- What an owned slice is: nil and empty, or a whole block whose first elements are l. -/
theorem OwnI.form {w : World} {base : Nat} {v : Value} {l : List Int} (h : OwnI w base v l) :
    ∃ a c, v = .slice a l.length c ∧ l.length ≤ c ∧ c ≤ maxLen ∧ RdI w a l := by
  rcases h.2 with ⟨rfl, hn⟩ | ⟨g, cap, cur, rfl, hb, hg, hnc, hm, hs, ht⟩
  · have : l = [] := List.eq_nil_of_length_eq_zero hn
    subst this
    exact ⟨none, 0, rfl, Nat.le_refl _, by simp [maxLen], RdI.nil _ _⟩
  · refine ⟨some ⟨g, 0, none⟩, cap, rfl, hnc, hm, ?_⟩
    right
    refine ⟨g, 0, rfl, fun i hi => ?_⟩
    have hc := World.ownsRow.cells (w := w) h (g := g) rfl i _ (rowL_getI l i hi)
    have hadd : (⟨g, 0, none⟩ : Addr).add i = ⟨g, i, none⟩ := by unfold Addr.add; split <;> simp_all
    rw [hadd] at hc
    rw [Nat.zero_add]; exact hc
theorem OwnI.ofBlk {w : World} {base g : Nat} {l m : List Int} (h : BlkI w g (rowAI (l ++ m))) (hb : base ≤ g) (hm : (l ++ m).length ≤ maxLen) : OwnI w base (.slice (some ⟨g, 0, none⟩) l.length (l ++ m).length) l := by
  refine ⟨by simp [rowLI], .inr ⟨g, (l ++ m).length, rowAI (l ++ m), rfl, hb, h, by simp, hm, by simp [rowAI, rowLI], ?_⟩⟩
  simp [rowAI, rowLI]

/-- make([]uint64, n). -/
theorem info_u64I : (Try.prog.info? 3).map (fun i => (i.zero, i.size, i.bytes)) = some (some (.int .i64 0), 1, 8) := by kernel_rfl
theorem made_rowI (n : Nat) : madeCells #[.int .i64 0] n = rowAI (List.replicate n 0) := by
  unfold madeCells rowAI rowLI
  apply Array.ext
  · simp
  · intro i h1 h2
    simp [Nat.mod_one]
theorem make_cI (n c : Nat) (hn : n ≤ c) (hc : c ≤ 16777216) (w : World) : (Instr.makeSlice 84 (.int .i64 (n : Int)) (.int .i64 (c : Int))).run Try.prog w =
    .ok (.slice (some ⟨w.heap.size, 0, none⟩) n c) (w.alloc (.cells (rowAI (List.replicate c 0)) 3)) := by
  obtain ⟨i0, hi, hz0, hz1, hz2⟩ := info_parts info_u64I
  have h := run_make (P := Try.prog) w 84 3 i0 (.int .i64 0) Try.underlying84 hi hz0 .i64 .i64 n c (by omega) (by omega) (by rw [hz2]; omega) (by omega)
  rw [h, hz1]
  have : (Value.int IntKind.i64 0).cells = #[.int .i64 0] := rfl
  simp only [Int.toNat_natCast, Nat.mul_one, this, made_rowI]
theorem OwnI.baseLt {w : World} {base : Nat} {v : Value} {l : List Int} (h : OwnI w base v l) : ∀ k, v.ownBlock = some k → base ≤ k := fun k hk => (World.ownsRow.lt h k hk).1

theorem run_append_nilI (w : World) (base : Nat) (ty : TypeId) (v : Value) (l : List Int) (hown : OwnI w base v l) (c : Nat) : (Builtin.append_ #[84, 84] ty #[v, .slice none 0 c]).run Try.prog w = .ok v w := by
  obtain ⟨i, hi, _⟩ := info_parts info_u64I
  have ht : Try.prog.underlying 84 = some (.slice 3) := Try.underlying84
  rcases hown.2 with ⟨rfl, hn⟩ | ⟨g, cap, cur, rfl, _, _, hnc, _⟩
  · simp [Builtin.append_, run_underlying ht, sizeOf, typeInfo, hi, Builtin.lenOf, Builtin.firstCells]
  · simp [Builtin.append_, run_underlying ht, sizeOf, typeInfo, hi, Builtin.lenOf, Builtin.firstCells, hnc, storeCells]

/-- append(v, x...), x a slice that reads as y. -/
theorem wpList_appI {ops : Array Oper} {rest : List Oper} {o : Oper} {a : Act} {w : World} {Q : Exit → Act → World → Prop} (hgd : o.guard = none) (s x : Operand)
    (ho : o.op = .call { callee := .builtin .append, args := #[s, x], argTypes := #[84, 84] })
    (base : Nat) (v : Value) (l : List Int) (hs : a.eval s = v) (hown : OwnI w base v l) (A : Option Addr) (y : List Int) (c : Nat)
    (hx : a.eval x = .slice A y.length c) (hr : RdI w A y) (hl : l.length + y.length ≤ 1000000000) (hbase : base ≤ w.heap.size)
    (h : ∀ v' w', OwnI w' base v' (l ++ y) → (∀ w0, Ext w0 w → w0.heap.size ≤ base → Ext w0 w') → (∀ k, k < w.heap.size → v.ownBlock ≠ some k → w'.heap[k]? = w.heap[k]?) → wpList Try.prog ops Q rest (a.put o.dst v') w') : wpList Try.prog ops Q (o :: rest) a w := by
  have hnil : A = none → y = [] := fun e => by
    rcases hr with h | ⟨b, off, hb, _⟩
    · exact h
    · rw [e] at hb; cases hb
  cases A with
  | none =>
    have hy := hnil rfl
    subst hy
    refine wpList_plain hgd fun K hK => ?_
    have hrun := run_append_nilI w base o.type v l hown c
    unfold Oper.wp execOp
    simp only [ho, resolve, invoke, builtin, Sem.run_bind, Sem.run_pure, Result.andThen_ok, List.map_toArray, List.map_cons, List.map_nil, hs, hx, List.length_nil, hrun]
    exact hK _ _ (h v w (by simpa using hown) (fun _ h _ => h) (fun _ _ _ => rfl))
  | some ad =>
    obtain ⟨i0, hi, hz0, hz1, hz2⟩ := info_parts info_u64I
    refine wpList_append_own w hgd s x _ ho base 3 i0 (.int .i64 0) 1 8 Try.underlying84 hi hz0 hz1 hz2 rfl (by decide) v l.length (rowLI l) hs hown ad y.length c (rowLI y) hx (by simp [rowL_lenI]) ?_ (one_rowLI y) (by simp only [maxLen]; omega) (by omega) hbase ?_
    · intro j u hu
      rcases hr with hy | ⟨b, off, hb, hc⟩
      · subst hy; simp [rowLI] at hu
      · have hj : j < y.length := by
          rcases Nat.lt_or_ge j y.length with hj | hj
          · exact hj
          · rw [List.getElem?_eq_none (by rw [rowL_lenI]; exact hj)] at hu; cases hu
        rw [rowL_getI y j hj] at hu
        replace hb := Option.some.inj hb
        subst hb
        have hadd : (⟨b, off, none⟩ : Addr).add j = ⟨b, off + j, none⟩ := by unfold Addr.add; split <;> simp_all
        rw [hadd, hc j hj, hu]
    · intro v' w' h2 h3 _
      refine h v' w' ?_ (fun w0 hx0 hb0 => ?_) (fun k hk hne => h3.block k hk (fun e => hne e.symm))
      · unfold OwnI
        rw [rowL_appI, List.length_append]; exact h2
      · exact Below.grown hx0 h3 hx0.size (fun k hk => Nat.le_trans hb0 (hown.baseLt k hk))

/-- The same of one element that was laid into a cell of its own. -/
theorem wpList_app1I {ops : Array Oper} {rest : List Oper} {o : Oper} {a : Act} {w : World} {Q : Exit → Act → World → Prop} (hgd : o.guard = none) (s x : Operand)
    (ho : o.op = .call { callee := .builtin .append, args := #[s, x], argTypes := #[84, 84] })
    (base : Nat) (v : Value) (l : List Int) (hs : a.eval s = v) (hown : OwnI w base v l) (g : Nat) (y : Int) (c : Nat)
    (hx : a.eval x = .slice (some ⟨g, 0, none⟩) 1 c) (hr : w.cell? ⟨g, 0, none⟩ = some (.int .i64 y)) (hl : l.length + 1 ≤ 1000000000) (hbase : base ≤ w.heap.size)
    (h : ∀ v' w', OwnI w' base v' (l ++ [y]) → (∀ w0, Ext w0 w → w0.heap.size ≤ base → Ext w0 w') → (∀ k, k < w.heap.size → v.ownBlock ≠ some k → w'.heap[k]? = w.heap[k]?) → wpList Try.prog ops Q rest (a.put o.dst v') w') : wpList Try.prog ops Q (o :: rest) a w :=
  wpList_appI hgd s x ho base v l hs hown (some ⟨g, 0, none⟩) [y] c hx (.inr ⟨g, 0, rfl, fun i hi => by
    have : i = 0 := by simpa using hi
    subst this; simpa using hr⟩) (by simpa using hl) hbase h

theorem OwnI.pre {w : World} {base : Nat} {a : Option Addr} {c : Nat} {l : List Int} (h : OwnI w base (.slice a l.length c) l) (k : Nat) (hk : k ≤ l.length) : OwnI w base (.slice a k c) (l.take k) := by
  have hlen : (l.take k).length = k := by simp; omega
  refine ⟨by rw [rowL_lenI, Nat.mul_one], ?_⟩
  rw [hlen]
  rcases h.2 with ⟨hv, hn⟩ | ⟨g, cap, cur, hv, hb, hg, hnc, hm, hs, ht⟩
  · injection hv with h1 h2 h3
    left
    have : k = 0 := by omega
    subst this h1 h3; exact ⟨rfl, rfl⟩
  · right
    injection hv with h1 h2 h3
    subst h1 h3
    refine ⟨g, c, cur, rfl, hb, hg, by omega, hm, hs, ?_⟩
    have := congrArg (List.take k) ht
    simp only [Nat.mul_one, List.take_take] at this ⊢
    rw [show min k l.length = k by omega] at this
    rw [this]; simp [rowLI, List.map_take]

/-- The fact of a region: a slice of the call's own. -/
def OwnFI (base : Nat) (l : List Int) : Fact := fun w v => OwnI w base v l
theorem OwnFI.mono {base : Nat} {l : List Int} : Mono (OwnFI base l) := fun _ _ _ hx h => OwnI.grow h hx

/-- Block g is an array of c numbers that begins with l; it may be written. -/
def ArrI (w : World) (g : Nat) (l : List Int) (c : Nat) : Prop :=
  ∃ cur : Array Value, w.heap[g]? = some (.cells cur 3 (0, 0)) ∧ cur.size = c ∧ l.length ≤ c ∧ c ≤ maxLen ∧ cur.toList.take l.length = rowLI l
section
variable {w w' : World} {g c : Nat} {l : List Int}
theorem ArrI.lt (h : ArrI w g l c) : g < w.heap.size := by
  obtain ⟨cur, hg, _⟩ := h
  exact (Array.getElem?_eq_some_iff.1 hg).1
theorem ArrI.at (h : ArrI w g l c) {i : Nat} (hi : i < l.length) : w.cell? ⟨g, i, none⟩ = some (.int .i64 (l.getD i 0)) := by
  obtain ⟨cur, hg, hs, hl, _, ht⟩ := h
  rw [cell_of_row w g i cur 3 (0, 0) hg]
  have := congrArg (fun x => x[i]?) ht
  simp only [List.getElem?_take, if_pos hi] at this
  rw [← Array.getElem?_toList, this, rowL_getI l i hi]
theorem ArrI.frozen (h : ArrI w g l c) (i : Nat) : w.frozen? ⟨g, i, none⟩ = false := by
  obtain ⟨cur, hg, _⟩ := h
  simp [World.frozen?, hg]
theorem ArrI.ext (h : ArrI w g l c) (hx : Ext w w') : ArrI w' g l c := by
  have hlt := h.lt
  obtain ⟨cur, hg, r⟩ := h
  exact ⟨cur, (Below.block hx g hlt).trans hg, r⟩
theorem ArrI.set (h : ArrI w g l c) (i : Nat) (x : Int) (_hi : i < l.length) : ArrI (w.setCell ⟨g, i, none⟩ (.int .i64 x)) g (l.set i x) c := by
  obtain ⟨cur, hg, hs, hl, hm, ht⟩ := h
  refine ⟨cur.setIfInBounds i (.int .i64 x), ?_, by simpa using hs, by simpa using hl, hm, ?_⟩
  · simp [World.setCell, Array.getElem?_modify, hg]
  · rw [List.length_set, Array.toList_setIfInBounds, List.take_set, ht]; simp [rowLI, List.map_set]
theorem ArrI.rd (h : ArrI w g l c) : RdI w (some ⟨g, 0, none⟩) l := by
  right
  exact ⟨g, 0, rfl, fun i hi => by rw [Nat.zero_add]; exact h.at hi⟩
theorem ArrI.own (h : ArrI w g l c) {base : Nat} (hb : base ≤ g) : OwnI w base (.slice (some ⟨g, 0, none⟩) l.length c) l := by
  obtain ⟨cur, hg, hs, hl, hm, ht⟩ := h
  exact ⟨by rw [rowL_lenI, Nat.mul_one], .inr ⟨g, c, cur, rfl, hb, hg, hl, hm, by rw [hs, Nat.mul_one], by rw [Nat.mul_one]; exact ht⟩⟩
theorem ArrI.short (h : ArrI w g l c) (k : Nat) : ArrI w g (l.take k) c := by
  obtain ⟨cur, hg, hs, hl, hm, ht⟩ := h
  refine ⟨cur, hg, hs, Nat.le_trans (by simp; omega) hl, hm, ?_⟩
  rw [List.length_take, ← List.take_take, ht]; simp [rowLI, List.map_take]
theorem ArrI.ofBlk (h : BlkI w g (rowAI l)) (hl : l.length ≤ 1000000000) : ArrI w g l l.length :=
  ⟨rowAI l, h, rowA_sizeI l, Nat.le_refl _, by simp [maxLen]; omega, by show (rowLI l).take l.length = rowLI l; rw [← rowL_lenI l, List.take_length]⟩
theorem OwnI.arr {base : Nat} {v : Value} (h : OwnI w base v l) (hl : 0 < l.length) : ∃ g c, v = .slice (some ⟨g, 0, none⟩) l.length c ∧ base ≤ g ∧ l.length ≤ c ∧ ArrI w g l c := by
  rcases h.2 with ⟨_, hn⟩ | ⟨g, cap, cur, rfl, hb, hg, hnc, hm, hs, ht⟩
  · omega
  · exact ⟨g, cap, rfl, hb, hnc, cur, hg, by simpa using hs, hnc, hm, by simpa using ht⟩
theorem ArrI.far (h : ArrI w g l c) {p : Addr} (hp : g ≠ p.block) (u : Value) : ArrI (w.setCell p u) g l c := by
  obtain ⟨cur, hg, r⟩ := h
  exact ⟨cur, (Below.heap_setCell w p u g hp).trans hg, r⟩
end
theorem But.rdI {g : Nat} {w w' : World} (h : But g w w') {a : Option Addr} {l : List Int} (hr : RdI w a l) (hne : ∀ p : Addr, a = some p → p.block ≠ g) : RdI w' a l := by
  rcases hr with h1 | ⟨b, off, ha, hc⟩
  · exact .inl h1
  · exact .inr ⟨b, off, ha, fun i hi => h.cell (hc i hi) (by have := hne _ ha; exact this)⟩
def SlPostI (w : World) (l : List Int) (e : Ending) (w' : World) : Prop := ∃ v, e = .returned v ∧ OwnI w' w.heap.size v l ∧ Ext w w'
end Go.Proofs.Ytcnbinjoeilfgaa
