/- append onto a slice of the call's own. -/
import Derived.Test.YtndiaamoapidoaaSlice
import Derived.OwnWalk
namespace Go.Proofs.Ytndiaamoapidoaa
open Go.RowKit

theorem Own.baseLt {w : World} {base : Nat} {v : Value} {l : List Nat} (h : Own w base v l) : ∀ k, v.ownBlock = some k → base ≤ k := fun k hk => (World.ownsRow.lt h k hk).1

theorem run_append_nil (w : World) (base : Nat) (ty : TypeId) (v : Value) (l : List Nat) (hown : Own w base v l) (c : Nat) : (Builtin.append_ #[22, 22] ty #[v, .slice none 0 c]).run Try.prog w = .ok v w := by
  obtain ⟨i, hi, _⟩ := info_parts info_u64
  have ht : Try.prog.underlying 22 = some (.slice 23) := Try.underlying22
  rcases hown.2 with ⟨rfl, hn⟩ | ⟨g, cap, cur, rfl, _, _, hnc, _⟩
  · simp [Builtin.append_, run_underlying ht, sizeOf, typeInfo, hi, Builtin.lenOf, Builtin.firstCells]
  · simp [Builtin.append_, run_underlying ht, sizeOf, typeInfo, hi, Builtin.lenOf, Builtin.firstCells, hnc, storeCells]

/-- append(v, x...), x a slice that reads as y. -/
theorem wpList_app {ops : Array Oper} {rest : List Oper} {o : Oper} {a : Act} {w : World} {Q : Exit → Act → World → Prop} (hgd : o.guard = none) (s x : Operand)
    (ho : o.op = .call { callee := .builtin .append, args := #[s, x], argTypes := #[22, 22] })
    (base : Nat) (v : Value) (l : List Nat) (hs : a.eval s = v) (hown : Own w base v l) (A : Option Addr) (y : List Nat) (c : Nat)
    (hx : a.eval x = .slice A y.length c) (hr : Rd w A y) (hl : l.length + y.length ≤ 1000000000) (hbase : base ≤ w.heap.size)
    (h : ∀ v' w', Own w' base v' (l ++ y) → (∀ w0, Ext w0 w → w0.heap.size ≤ base → Ext w0 w') → (∀ k, k < w.heap.size → v.ownBlock ≠ some k → w'.heap[k]? = w.heap[k]?) → wpList Try.prog ops Q rest (a.put o.dst v') w') : wpList Try.prog ops Q (o :: rest) a w := by
  have hnil : A = none → y = [] := fun e => by
    rcases hr with h | ⟨b, off, hb, _⟩
    · exact h
    · rw [e] at hb; cases hb
  cases A with
  | none =>
    have hy := hnil rfl
    subst hy
    refine wpList_plain hgd fun K hK => ?_
    have hrun := run_append_nil w base o.type v l hown c
    unfold Oper.wp execOp
    simp only [ho, resolve, invoke, builtin, Sem.run_bind, Sem.run_pure, Result.andThen_ok, List.map_toArray, List.map_cons, List.map_nil, hs, hx, List.length_nil, hrun]
    exact hK _ _ (h v w (by simpa using hown) (fun _ h _ => h) (fun _ _ _ => rfl))
  | some ad =>
    obtain ⟨i0, hi, hz0, hz1, hz2⟩ := info_parts info_u64
    refine wpList_append_own w hgd s x _ ho base 23 i0 (.int .u64 0) 1 8 Try.underlying22 hi hz0 hz1 hz2 rfl (by decide) v l.length (rowL l) hs hown ad y.length c (rowL y) hx (by simp [rowL_len]) ?_ (one_rowL y) (by simp only [maxLen]; omega) (by omega) hbase ?_
    · intro j u hu
      rcases hr with hy | ⟨b, off, hb, hc⟩
      · subst hy; simp [rowL] at hu
      · have hj : j < y.length := by
          rcases Nat.lt_or_ge j y.length with hj | hj
          · exact hj
          · rw [List.getElem?_eq_none (by rw [rowL_len]; exact hj)] at hu; cases hu
        rw [rowL_get y j hj] at hu
        replace hb := Option.some.inj hb
        subst hb
        have hadd : (⟨b, off, none⟩ : Addr).add j = ⟨b, off + j, none⟩ := by unfold Addr.add; split <;> simp_all
        rw [hadd, hc j hj, hu]
    · intro v' w' h2 h3 _
      refine h v' w' ?_ (fun w0 hx0 hb0 => ?_) (fun k hk hne => h3.block k hk (fun e => hne e.symm))
      · unfold Own
        rw [rowL_app, List.length_append]; exact h2
      · exact Below.grown hx0 h3 hx0.size (fun k hk => Nat.le_trans hb0 (hown.baseLt k hk))

/-- The same of one element that was laid into a cell of its own. -/
theorem wpList_app1 {ops : Array Oper} {rest : List Oper} {o : Oper} {a : Act} {w : World} {Q : Exit → Act → World → Prop} (hgd : o.guard = none) (s x : Operand)
    (ho : o.op = .call { callee := .builtin .append, args := #[s, x], argTypes := #[22, 22] })
    (base : Nat) (v : Value) (l : List Nat) (hs : a.eval s = v) (hown : Own w base v l) (g y c : Nat)
    (hx : a.eval x = .slice (some ⟨g, 0, none⟩) 1 c) (hr : w.cell? ⟨g, 0, none⟩ = some (.int .u64 (y : Int))) (hl : l.length + 1 ≤ 1000000000) (hbase : base ≤ w.heap.size)
    (h : ∀ v' w', Own w' base v' (l ++ [y]) → (∀ w0, Ext w0 w → w0.heap.size ≤ base → Ext w0 w') → (∀ k, k < w.heap.size → v.ownBlock ≠ some k → w'.heap[k]? = w.heap[k]?) → wpList Try.prog ops Q rest (a.put o.dst v') w') : wpList Try.prog ops Q (o :: rest) a w :=
  wpList_app hgd s x ho base v l hs hown (some ⟨g, 0, none⟩) [y] c hx (.inr ⟨g, 0, rfl, fun i hi => by
    have : i = 0 := by simpa using hi
    subst this; simpa using hr⟩) (by simpa using hl) hbase h

theorem Own.pre {w : World} {base : Nat} {a : Option Addr} {c : Nat} {l : List Nat} (h : Own w base (.slice a l.length c) l) (k : Nat) (hk : k ≤ l.length) : Own w base (.slice a k c) (l.take k) := by
  have hlen : (l.take k).length = k := by simp; omega
  refine ⟨by rw [rowL_len, Nat.mul_one], ?_⟩
  rw [hlen]
  rcases h.2 with ⟨hv, hn⟩ | ⟨g, cap, cur, hv, hb, hg, hnc, hm, hs, ht⟩
  · injection hv with h1 h2 h3
    left
    have : k = 0 := by omega
    subst this h1 h3; exact ⟨rfl, rfl⟩
  · right
    injection hv with h1 h2 h3
    subst h1 h3
    refine ⟨g, c, cur, rfl, hb, hg, by omega, hm, hs, ?_⟩
    have := congrArg (List.take k) ht
    simp only [Nat.mul_one, List.take_take] at this ⊢
    rw [show min k l.length = k by omega] at this
    rw [this]; simp [rowL, List.map_take]

/-- The fact of a region: a slice of the call's own. -/
def OwnF (base : Nat) (l : List Nat) : Fact := fun w v => Own w base v l
theorem OwnF.mono {base : Nat} {l : List Nat} : Mono (OwnF base l) := fun _ _ _ hx h => Own.grow h hx

/-- Block g is an array of c numbers that begins with l; it may be written. -/
def Arr (w : World) (g : Nat) (l : List Nat) (c : Nat) : Prop :=
  ∃ cur : Array Value, w.heap[g]? = some (.cells cur 23 (0, 0)) ∧ cur.size = c ∧ l.length ≤ c ∧ c ≤ maxLen ∧ cur.toList.take l.length = rowL l
section
variable {w w' : World} {g c : Nat} {l : List Nat}
theorem Arr.lt (h : Arr w g l c) : g < w.heap.size := by
  obtain ⟨cur, hg, _⟩ := h
  exact (Array.getElem?_eq_some_iff.1 hg).1
theorem Arr.at (h : Arr w g l c) {i : Nat} (hi : i < l.length) : w.cell? ⟨g, i, none⟩ = some (.int .u64 ((l.getD i 0 : Nat) : Int)) := by
  obtain ⟨cur, hg, hs, hl, _, ht⟩ := h
  rw [cell_of_row w g i cur 23 (0, 0) hg]
  have := congrArg (fun x => x[i]?) ht
  simp only [List.getElem?_take, if_pos hi] at this
  rw [← Array.getElem?_toList, this, rowL_get l i hi]
theorem Arr.frozen (h : Arr w g l c) (i : Nat) : w.frozen? ⟨g, i, none⟩ = false := by
  obtain ⟨cur, hg, _⟩ := h
  simp [World.frozen?, hg]
theorem Arr.ext (h : Arr w g l c) (hx : Ext w w') : Arr w' g l c := by
  have hlt := h.lt
  obtain ⟨cur, hg, r⟩ := h
  exact ⟨cur, (Below.block hx g hlt).trans hg, r⟩
theorem Arr.set (h : Arr w g l c) (i x : Nat) (_hi : i < l.length) : Arr (w.setCell ⟨g, i, none⟩ (.int .u64 (x : Int))) g (l.set i x) c := by
  obtain ⟨cur, hg, hs, hl, hm, ht⟩ := h
  refine ⟨cur.setIfInBounds i (.int .u64 (x : Int)), ?_, by simpa using hs, by simpa using hl, hm, ?_⟩
  · simp [World.setCell, Array.getElem?_modify, hg]
  · rw [List.length_set, Array.toList_setIfInBounds, List.take_set, ht]; simp [rowL, List.map_set]
theorem Arr.rd (h : Arr w g l c) : Rd w (some ⟨g, 0, none⟩) l := by
  right
  exact ⟨g, 0, rfl, fun i hi => by rw [Nat.zero_add]; exact h.at hi⟩
theorem Arr.own (h : Arr w g l c) {base : Nat} (hb : base ≤ g) : Own w base (.slice (some ⟨g, 0, none⟩) l.length c) l := by
  obtain ⟨cur, hg, hs, hl, hm, ht⟩ := h
  exact ⟨by rw [rowL_len, Nat.mul_one], .inr ⟨g, c, cur, rfl, hb, hg, hl, hm, by rw [hs, Nat.mul_one], by rw [Nat.mul_one]; exact ht⟩⟩
theorem Arr.short (h : Arr w g l c) (k : Nat) : Arr w g (l.take k) c := by
  obtain ⟨cur, hg, hs, hl, hm, ht⟩ := h
  refine ⟨cur, hg, hs, Nat.le_trans (by simp; omega) hl, hm, ?_⟩
  rw [List.length_take, ← List.take_take, ht]; simp [rowL, List.map_take]
theorem Arr.ofBlk (h : Blk w g (rowA l)) (hl : l.length ≤ 1000000000) : Arr w g l l.length :=
  ⟨rowA l, h, rowA_size l, Nat.le_refl _, by simp [maxLen]; omega, by show (rowL l).take l.length = rowL l; rw [← rowL_len l, List.take_length]⟩
theorem Own.arr {base : Nat} {v : Value} (h : Own w base v l) (hl : 0 < l.length) : ∃ g c, v = .slice (some ⟨g, 0, none⟩) l.length c ∧ base ≤ g ∧ l.length ≤ c ∧ Arr w g l c := by
  rcases h.2 with ⟨_, hn⟩ | ⟨g, cap, cur, rfl, hb, hg, hnc, hm, hs, ht⟩
  · omega
  · exact ⟨g, cap, rfl, hb, hnc, cur, hg, by simpa using hs, hnc, hm, by simpa using ht⟩
theorem Arr.far (h : Arr w g l c) {p : Addr} (hp : g ≠ p.block) (u : Value) : Arr (w.setCell p u) g l c := by
  obtain ⟨cur, hg, r⟩ := h
  exact ⟨cur, (Below.heap_setCell w p u g hp).trans hg, r⟩
end
end Go.Proofs.Ytndiaamoapidoaa
