/- App Post Rdn Law Open, merged. -/
import Derived.Test.YtcnbinjoeilfgaaSlice
import Derived.OwnWalk
import Derived.ProofKit
import Derived.OpenShut
import Derived.ShutString
import Derived.ChangeOld
import Derived.SizedLaws
/- append onto a slice of the call's own. -/
namespace Go.Proofs.Ytcnbinjoeilfgaa
open Go.RowKit

theorem Own.baseLt {w : World} {base : Nat} {v : Value} {l : List Nat} (h : Own w base v l) : ∀ k, v.ownBlock = some k → base ≤ k := fun k hk => (World.ownsRow.lt h k hk).1

theorem run_append_nil (w : World) (base : Nat) (ty : TypeId) (v : Value) (l : List Nat) (hown : Own w base v l) (c : Nat) : (Builtin.append_ #[23, 23] ty #[v, .slice none 0 c]).run Try.prog w = .ok v w := by
  obtain ⟨i, hi, _⟩ := info_parts info_u64
  have ht : Try.prog.underlying 23 = some (.slice 22) := Try.underlying23
  rcases hown.2 with ⟨rfl, hn⟩ | ⟨g, cap, cur, rfl, _, _, hnc, _⟩
  · simp [Builtin.append_, run_underlying ht, sizeOf, typeInfo, hi, Builtin.lenOf, Builtin.firstCells]
  · simp [Builtin.append_, run_underlying ht, sizeOf, typeInfo, hi, Builtin.lenOf, Builtin.firstCells, hnc, storeCells]

/-- append(v, x...), x a slice that reads as y. -/
theorem wpList_app {ops : Array Oper} {rest : List Oper} {o : Oper} {a : Act} {w : World} {Q : Exit → Act → World → Prop} (hgd : o.guard = none) (s x : Operand)
    (ho : o.op = .call { callee := .builtin .append, args := #[s, x], argTypes := #[23, 23] })
    (base : Nat) (v : Value) (l : List Nat) (hs : a.eval s = v) (hown : Own w base v l) (A : Option Addr) (y : List Nat) (c : Nat)
    (hx : a.eval x = .slice A y.length c) (hr : Rd w A y) (hl : l.length + y.length ≤ 1000000000) (hbase : base ≤ w.heap.size)
    (h : ∀ v' w', Own w' base v' (l ++ y) → (∀ w0, Ext w0 w → w0.heap.size ≤ base → Ext w0 w') → (∀ k, k < w.heap.size → v.ownBlock ≠ some k → w'.heap[k]? = w.heap[k]?) → wpList Try.prog ops Q rest (a.put o.dst v') w') : wpList Try.prog ops Q (o :: rest) a w := by
  have hnil : A = none → y = [] := fun e => by
    rcases hr with h | ⟨b, off, hb, _⟩
    · exact h
    · rw [e] at hb; cases hb
  cases A with
  | none =>
    have hy := hnil rfl
    subst hy
    refine wpList_plain hgd fun K hK => ?_
    have hrun := run_append_nil w base o.type v l hown c
    unfold Oper.wp execOp
    simp only [ho, resolve, invoke, builtin, Sem.run_bind, Sem.run_pure, Result.andThen_ok, List.map_toArray, List.map_cons, List.map_nil, hs, hx, List.length_nil, hrun]
    exact hK _ _ (h v w (by simpa using hown) (fun _ h _ => h) (fun _ _ _ => rfl))
  | some ad =>
    obtain ⟨i0, hi, hz0, hz1, hz2⟩ := info_parts info_u64
    refine wpList_append_own w hgd s x _ ho base 22 i0 (.int .u64 0) 1 8 Try.underlying23 hi hz0 hz1 hz2 rfl (by decide) v l.length (rowL l) hs hown ad y.length c (rowL y) hx (by simp [rowL_len]) ?_ (one_rowL y) (by simp only [maxLen]; omega) (by omega) hbase ?_
    · intro j u hu
      rcases hr with hy | ⟨b, off, hb, hc⟩
      · subst hy; simp [rowL] at hu
      · have hj : j < y.length := by
          rcases Nat.lt_or_ge j y.length with hj | hj
          · exact hj
          · rw [List.getElem?_eq_none (by rw [rowL_len]; exact hj)] at hu; cases hu
        rw [rowL_get y j hj] at hu
        replace hb := Option.some.inj hb
        subst hb
        have hadd : (⟨b, off, none⟩ : Addr).add j = ⟨b, off + j, none⟩ := by unfold Addr.add; split <;> simp_all
        rw [hadd, hc j hj, hu]
    · intro v' w' h2 h3 _
      refine h v' w' ?_ (fun w0 hx0 hb0 => ?_) (fun k hk hne => h3.block k hk (fun e => hne e.symm))
      · unfold Own
        rw [rowL_app, List.length_append]; exact h2
      · exact Below.grown hx0 h3 hx0.size (fun k hk => Nat.le_trans hb0 (hown.baseLt k hk))

/-- The same of one element that was laid into a cell of its own. -/
theorem wpList_app1 {ops : Array Oper} {rest : List Oper} {o : Oper} {a : Act} {w : World} {Q : Exit → Act → World → Prop} (hgd : o.guard = none) (s x : Operand)
    (ho : o.op = .call { callee := .builtin .append, args := #[s, x], argTypes := #[23, 23] })
    (base : Nat) (v : Value) (l : List Nat) (hs : a.eval s = v) (hown : Own w base v l) (g y c : Nat)
    (hx : a.eval x = .slice (some ⟨g, 0, none⟩) 1 c) (hr : w.cell? ⟨g, 0, none⟩ = some (.int .u64 (y : Int))) (hl : l.length + 1 ≤ 1000000000) (hbase : base ≤ w.heap.size)
    (h : ∀ v' w', Own w' base v' (l ++ [y]) → (∀ w0, Ext w0 w → w0.heap.size ≤ base → Ext w0 w') → (∀ k, k < w.heap.size → v.ownBlock ≠ some k → w'.heap[k]? = w.heap[k]?) → wpList Try.prog ops Q rest (a.put o.dst v') w') : wpList Try.prog ops Q (o :: rest) a w :=
  wpList_app hgd s x ho base v l hs hown (some ⟨g, 0, none⟩) [y] c hx (.inr ⟨g, 0, rfl, fun i hi => by
    have : i = 0 := by simpa using hi
    subst this; simpa using hr⟩) (by simpa using hl) hbase h

theorem Own.pre {w : World} {base : Nat} {a : Option Addr} {c : Nat} {l : List Nat} (h : Own w base (.slice a l.length c) l) (k : Nat) (hk : k ≤ l.length) : Own w base (.slice a k c) (l.take k) := by
  have hlen : (l.take k).length = k := by simp; omega
  refine ⟨by rw [rowL_len, Nat.mul_one], ?_⟩
  rw [hlen]
  rcases h.2 with ⟨hv, hn⟩ | ⟨g, cap, cur, hv, hb, hg, hnc, hm, hs, ht⟩
  · injection hv with h1 h2 h3
    left
    have : k = 0 := by omega
    subst this h1 h3; exact ⟨rfl, rfl⟩
  · right
    injection hv with h1 h2 h3
    subst h1 h3
    refine ⟨g, c, cur, rfl, hb, hg, by omega, hm, hs, ?_⟩
    have := congrArg (List.take k) ht
    simp only [Nat.mul_one, List.take_take] at this ⊢
    rw [show min k l.length = k by omega] at this
    rw [this]; simp [rowL, List.map_take]

/-- The fact of a region: a slice of the call's own. -/
def OwnF (base : Nat) (l : List Nat) : Fact := fun w v => Own w base v l
theorem OwnF.mono {base : Nat} {l : List Nat} : Mono (OwnF base l) := fun _ _ _ hx h => Own.grow h hx

/-- Block g is an array of c numbers that begins with l; it may be written. -/
def Arr (w : World) (g : Nat) (l : List Nat) (c : Nat) : Prop :=
  ∃ cur : Array Value, w.heap[g]? = some (.cells cur 22 (0, 0)) ∧ cur.size = c ∧ l.length ≤ c ∧ c ≤ maxLen ∧ cur.toList.take l.length = rowL l
section
variable {w w' : World} {g c : Nat} {l : List Nat}
theorem Arr.lt (h : Arr w g l c) : g < w.heap.size := by
  obtain ⟨cur, hg, _⟩ := h
  exact (Array.getElem?_eq_some_iff.1 hg).1
theorem Arr.at (h : Arr w g l c) {i : Nat} (hi : i < l.length) : w.cell? ⟨g, i, none⟩ = some (.int .u64 ((l.getD i 0 : Nat) : Int)) := by
  obtain ⟨cur, hg, hs, hl, _, ht⟩ := h
  rw [cell_of_row w g i cur 22 (0, 0) hg]
  have := congrArg (fun x => x[i]?) ht
  simp only [List.getElem?_take, if_pos hi] at this
  rw [← Array.getElem?_toList, this, rowL_get l i hi]
theorem Arr.frozen (h : Arr w g l c) (i : Nat) : w.frozen? ⟨g, i, none⟩ = false := by
  obtain ⟨cur, hg, _⟩ := h
  simp [World.frozen?, hg]
theorem Arr.ext (h : Arr w g l c) (hx : Ext w w') : Arr w' g l c := by
  have hlt := h.lt
  obtain ⟨cur, hg, r⟩ := h
  exact ⟨cur, (Below.block hx g hlt).trans hg, r⟩
theorem Arr.set (h : Arr w g l c) (i x : Nat) (_hi : i < l.length) : Arr (w.setCell ⟨g, i, none⟩ (.int .u64 (x : Int))) g (l.set i x) c := by
  obtain ⟨cur, hg, hs, hl, hm, ht⟩ := h
  refine ⟨cur.setIfInBounds i (.int .u64 (x : Int)), ?_, by simpa using hs, by simpa using hl, hm, ?_⟩
  · simp [World.setCell, Array.getElem?_modify, hg]
  · rw [List.length_set, Array.toList_setIfInBounds, List.take_set, ht]; simp [rowL, List.map_set]
theorem Arr.rd (h : Arr w g l c) : Rd w (some ⟨g, 0, none⟩) l := by
  right
  exact ⟨g, 0, rfl, fun i hi => by rw [Nat.zero_add]; exact h.at hi⟩
theorem Arr.own (h : Arr w g l c) {base : Nat} (hb : base ≤ g) : Own w base (.slice (some ⟨g, 0, none⟩) l.length c) l := by
  obtain ⟨cur, hg, hs, hl, hm, ht⟩ := h
  exact ⟨by rw [rowL_len, Nat.mul_one], .inr ⟨g, c, cur, rfl, hb, hg, hl, hm, by rw [hs, Nat.mul_one], by rw [Nat.mul_one]; exact ht⟩⟩
theorem Arr.short (h : Arr w g l c) (k : Nat) : Arr w g (l.take k) c := by
  obtain ⟨cur, hg, hs, hl, hm, ht⟩ := h
  refine ⟨cur, hg, hs, Nat.le_trans (by simp; omega) hl, hm, ?_⟩
  rw [List.length_take, ← List.take_take, ht]; simp [rowL, List.map_take]
theorem Arr.ofBlk (h : Blk w g (rowA l)) (hl : l.length ≤ 1000000000) : Arr w g l l.length :=
  ⟨rowA l, h, rowA_size l, Nat.le_refl _, by simp [maxLen]; omega, by show (rowL l).take l.length = rowL l; rw [← rowL_len l, List.take_length]⟩
theorem Own.arr {base : Nat} {v : Value} (h : Own w base v l) (hl : 0 < l.length) : ∃ g c, v = .slice (some ⟨g, 0, none⟩) l.length c ∧ base ≤ g ∧ l.length ≤ c ∧ Arr w g l c := by
  rcases h.2 with ⟨_, hn⟩ | ⟨g, cap, cur, rfl, hb, hg, hnc, hm, hs, ht⟩
  · omega
  · exact ⟨g, cap, rfl, hb, hnc, cur, hg, by simpa using hs, hnc, hm, by simpa using ht⟩
theorem Arr.far (h : Arr w g l c) {p : Addr} (hp : g ≠ p.block) (u : Value) : Arr (w.setCell p u) g l c := by
  obtain ⟨cur, hg, r⟩ := h
  exact ⟨cur, (Below.heap_setCell w p u g hp).trans hg, r⟩
end
end Go.Proofs.Ytcnbinjoeilfgaa

/- What calls leave: words shared by many contracts. -/
namespace Go.Proofs.Ytcnbinjoeilfgaa
def SlPost (w : World) (l : List Nat) (e : Ending) (w' : World) : Prop := ∃ v, e = .returned v ∧ Own w' w.heap.size v l ∧ Ext w w'
def IPost (w : World) (q : List Nat) (n : Int) (e : Ending) (w' : World) : Prop :=
  ∃ v, e = .returned (.tuple #[v, .int .i64 n]) ∧ Own w' w.heap.size v q ∧ Ext w w'
end Go.Proofs.Ytcnbinjoeilfgaa

/- Short lists that were just laid. -/
namespace Go.Proofs.Ytcnbinjoeilfgaa
theorem Own.formN {w : World} {base : Nat} {v : Value} {l : List Nat} (h : Own w base v l) (n : Nat) (hn : l.length = n) : ∃ a c, v = .slice a n c ∧ n ≤ c ∧ Rd w a l := by
  subst hn
  obtain ⟨a, c, hv, hlc, _, hr⟩ := h.form
  exact ⟨a, c, hv, hlc, hr⟩
theorem Rd.one {w : World} {g x : Nat} (h0 : w.cell? ⟨g, 0, none⟩ = some (.int .u64 (x : Int))) : Rd w (some ⟨g, 0, none⟩) [x] :=
  .inr ⟨g, 0, rfl, fun i hi => by
    have : i = 0 := by simpa using hi
    subst this; simpa using h0⟩
theorem Rd.two {w : World} {g x y : Nat} (h0 : w.cell? ⟨g, 0, none⟩ = some (.int .u64 (x : Int))) (h1 : w.cell? ⟨g, 1, none⟩ = some (.int .u64 (y : Int))) : Rd w (some ⟨g, 0, none⟩) [x, y] :=
  .inr ⟨g, 0, rfl, fun i hi => by
    have h : i = 0 ∨ i = 1 := by simp at hi; omega
    rcases h with rfl | rfl
    · simpa using h0
    · simpa using h1⟩
theorem Rd.three {w : World} {g x y z : Nat} (h0 : w.cell? ⟨g, 0, none⟩ = some (.int .u64 (x : Int))) (h1 : w.cell? ⟨g, 1, none⟩ = some (.int .u64 (y : Int))) (h2 : w.cell? ⟨g, 2, none⟩ = some (.int .u64 (z : Int))) : Rd w (some ⟨g, 0, none⟩) [x, y, z] :=
  .inr ⟨g, 0, rfl, fun i hi => by
    have h : i = 0 ∨ i = 1 ∨ i = 2 := by simp at hi; omega
    rcases h with rfl | rfl | rfl
    · simpa using h0
    · simpa using h1
    · simpa using h2⟩
theorem Rd.four {w : World} {g x y z u : Nat} (h0 : w.cell? ⟨g, 0, none⟩ = some (.int .u64 (x : Int))) (h1 : w.cell? ⟨g, 1, none⟩ = some (.int .u64 (y : Int))) (h2 : w.cell? ⟨g, 2, none⟩ = some (.int .u64 (z : Int))) (h3 : w.cell? ⟨g, 3, none⟩ = some (.int .u64 (u : Int))) : Rd w (some ⟨g, 0, none⟩) [x, y, z, u] :=
  .inr ⟨g, 0, rfl, fun i hi => by
    have h : i = 0 ∨ i = 1 ∨ i = 2 ∨ i = 3 := by simp at hi; omega
    rcases h with rfl | rfl | rfl | rfl
    · simpa using h0
    · simpa using h1
    · simpa using h2
    · simpa using h3⟩
theorem cnew (w : World) (cs : Array Value) (t : TypeId) (g i : Nat) (h : g = w.heap.size) : (w.alloc (.cells cs t)).cell? ⟨g, i, none⟩ = cs[i]? := by
  subst h; simp [World.cell?_alloc_new]
end Go.Proofs.Ytcnbinjoeilfgaa

/- From the row's reading of the arguments to the walks' words. -/
namespace Go.Proofs.Ytcnbinjoeilfgaa
open Go.RowKit

def IsRow (k : IntKind) (w : World) (a : Option Addr) (len cap : Nat) (zs : List Int) : Prop :=
  (a = none ∧ len = 0 ∧ cap = 0 ∧ zs = []) ∨
  ∃ x, a = some x ∧ len ≤ cap ∧ cap ≤ maxLen ∧ zs.length = cap ∧ (∀ i, i < zs.length → w.cell? (x.add i) = some (.int k (zs.getD i 0))) ∧ ∀ n ∈ zs, (Lit.int k n).wf = true

theorem nat_of_wf {n : Int} (h : (Lit.int .u64 n).wf = true) : ∃ k : Nat, n = (k : Int) ∧ k < 18446744073709551616 := by
  have hb := bounds_u64 h
  exact ⟨n.toNat, by omega, by omega⟩

theorem isRow_rd {w : World} {a : Option Addr} {len cap : Nat} {zs : List Int} (h : IsRow .u64 w a len cap zs) :
    ∃ l : List Nat, len = l.length ∧ Rd w a l ∧ l.length ≤ cap ∧ cap ≤ maxLen ∧ ∀ x ∈ l, x < 18446744073709551616 := by
  rcases h with ⟨rfl, rfl, rfl, rfl⟩ | ⟨x, rfl, h1, h2, h3, h4, h5⟩
  · exact ⟨[], rfl, Rd.nil _ _, Nat.le_refl _, by simp [maxLen], by simp⟩
  · refine ⟨(zs.take len).map Int.toNat, by simp; omega, ?_, by simp; omega, h2, ?_⟩
    · by_cases h0 : len = 0
      · subst h0; exact .inl (by simp)
      · right
        obtain ⟨b, off, spot⟩ := x
        have hc := h4 0 (by omega)
        have hspot : spot = none := by simpa [Addr.add] using World.cell?_spot hc
        subst hspot
        refine ⟨b, off, rfl, fun i hi => ?_⟩
        have hi' : i < len := by simp at hi; omega
        have hci := h4 i (by omega)
        have hadd : (⟨b, off, none⟩ : Addr).add i = ⟨b, off + i, none⟩ := by unfold Addr.add; split <;> simp_all
        rw [hadd] at hci
        rw [hci]
        have hlt : i < zs.length := by omega
        have hmem : zs.getD i 0 ∈ zs := by simp [List.getD, hlt]
        have hb := bounds_u64 (h5 _ hmem)
        simp only [List.getD, List.getElem?_map, List.getElem?_take, if_pos hi']
        simp only [List.getD, List.getElem?_eq_getElem hlt, Option.getD_some] at hb ⊢
        simp only [Option.map_some, Option.getD_some]
        congr 2; omega
    · intro y hy
      simp only [List.mem_map] at hy
      obtain ⟨z, hz, rfl⟩ := hy
      have hb := bounds_u64 (h5 z (List.mem_of_mem_take hz))
      omega

/-- The fact of a region: a slice that reads as l. -/
def RdF (l : List Nat) : Fact := fun w v => ∃ a c, v = .slice a l.length c ∧ l.length ≤ c ∧ Rd w a l
theorem RdF.mono {l : List Nat} : Mono (RdF l) := fun _ _ _ hx ⟨a, c, hv, hc, hr⟩ => ⟨a, c, hv, hc, hr.ext hx⟩
theorem RdF.of {w : World} {base : Nat} {v : Value} {l : List Nat} (h : Own w base v l) : RdF l w v := by
  obtain ⟨a, c, hv, hc, _, hr⟩ := h.form
  exact ⟨a, c, hv, hc, hr⟩
end Go.Proofs.Ytcnbinjoeilfgaa

/- Arguments of many shapes, opened. -/
namespace Go.Proofs.Ytcnbinjoeilfgaa
open Go.ChangeShapes Go.WideShapes Go.ChangeAt Go.RowKit
section
variable {H : Type} {enc : TypeId × Value → H} {W : World} {r : Reach} {b0 : Nat} {v : Value} {d : DataW H} {ps : List MemPlace} {n : Nat} {c : Value} {y : DataW H × List MemPlace}

set_option maxRecDepth 100000 in
theorem row_u64s (h : DataW.trod enc Try.prog W 0 (fun _ => true) true n 23 [c] = some y) :
    ∃ (a : Option Addr) (cap : Nat) (l : List Nat), c = .slice a l.length cap ∧ Rd W a l ∧ l.length ≤ cap ∧ cap ≤ maxLen ∧ ∀ x ∈ l, x < 18446744073709551616 := by
  obtain ⟨a, len, cap, zs, rfl, hw⟩ : ∃ (a : Option Addr) (len cap : Nat) (zs : List Int), c = .slice a len cap ∧ IsRow .u64 W a len cap zs := by
    rcases open_ints Try.underlying23 Try.underlying22 (by kernel_rfl) h with ⟨hcs, _⟩ | ⟨x, l, c, zs, hcs, _, hl, hm, hz, _, hcell, hwz⟩
    · simp at hcs
      exact ⟨none, 0, 0, [], hcs, .inl ⟨rfl, rfl, rfl, rfl⟩⟩
    · simp at hcs
      exact ⟨some x, l, c, zs, hcs, .inr ⟨_, rfl, hl, hm, by simpa using hz, hcell, hwz⟩⟩
  obtain ⟨l, rfl, h1, h2, h3, h4⟩ := isRow_rd hw
  exact ⟨a, cap, l, rfl, h1, h2, h3, h4⟩
set_option maxRecDepth 100000 in
theorem open_u64s (hv : Value.okWide Try.prog W r b0 23 v) (h : DataW.Trod enc Try.prog W 0 (fun _ => true) true 23 v d ps) :
    ∃ (a : Option Addr) (cap : Nat) (l : List Nat), v = .slice a l.length cap ∧ Rd W a l ∧ l.length ≤ cap ∧ cap ≤ maxLen ∧ ∀ x ∈ l, x < 18446744073709551616 := by
  obtain ⟨a, len, cap, rfl⟩ := okWide_slice Try.underlying23 hv
  obtain ⟨n, hn⟩ := h
  exact row_u64s hn
set_option maxRecDepth 100000 in
/-- The reach: how long a slice that was read can be. -/
theorem u64s_len {a : Option Addr} {len cap : Nat} (h : DataW.Trod enc Try.prog W 0 (fun _ => true) true 23 (.slice a len cap) d ps) (hw : ∀ n ∈ d.weights Try.prog 23, n ≤ reachBytes) : len ≤ 140737488355328 := by
  obtain ⟨n, hn⟩ := h
  rcases open_ints Try.underlying23 Try.underlying22 (by kernel_rfl) hn with ⟨hcs, _⟩ | ⟨x, l, c, zs, hcs, _, hl, hm, hz, hx, _, _⟩
  · simp [Value.cells] at hcs; omega
  · simp [Value.cells] at hcs
    obtain ⟨_, rfl, rfl⟩ := hcs
    simp only [Prod.mk.injEq] at hx
    have hb : Try.prog.bytesOf 22 = 8 := by kernel_rfl
    have h1 := hw (((lits (H := H) IntKind.u64 (zs.take len)).length + (lits (H := H) IntKind.u64 (zs.drop len)).length) * Try.prog.bytesOf 22 : Nat) (by rw [hx.1]; simp [DataW.weights, Try.underlying23])
    rw [hb] at h1
    have h2 := reachBytes_lt
    have h3 : zs.length = cap := by simpa using hz
    have h4 : (lits (H := H) IntKind.u64 (zs.take len)).length = len := by simp [lits]; omega
    omega
theorem open_arr2 {P : Program} {t e : TypeId} (hu : P.underlying t = some (.array 2 e)) (h1 : P.cellsOf e = 1) (h2 : P.cellsOf t = 2) (hv : Value.okWide P W r b0 t v) (hd : DataW.Trod enc P W 0 (fun _ => true) true t v d ps) :
    ∃ c0 c1 y0 y1 n, v = .agg #[c0, c1] ∧ DataW.trod enc P W 0 (fun _ => true) true n e [c0] = some y0 ∧ DataW.trod enc P W 0 (fun _ => true) true n e [c1] = some y1 := by
  obtain ⟨c0, c1, rfl⟩ : ∃ c0 c1, v = .agg #[c0, c1] := by
    simp only [Value.okWide, hu] at hv
    obtain ⟨cs, k1, k2, _⟩ := hv
    rw [h2] at k2
    obtain ⟨l⟩ := cs
    match l, k2 with
    | [c0, c1], _ => exact ⟨c0, c1, k1⟩
  obtain ⟨fuel, hf⟩ := hd
  cases fuel with
  | zero => simp [DataW.trod] at hf
  | succ n =>
    rw [DataW.trod_step] at hf
    unfold DataW.trodStep at hf
    simp only [hu, Value.cells] at hf
    rw [if_pos (by rw [h2]; rfl)] at hf
    simp only [Option.map_eq_some_iff] at hf
    obtain ⟨xs, hx, e1⟩ := hf
    rw [show List.range 2 = [0, 1] from rfl, List.mapM_cons, List.mapM_cons, List.mapM_nil] at hx
    simp only [bind, Option.bind_eq_some_iff, pure, Option.some.injEq, h1] at hx
    obtain ⟨y0, g0, _, ⟨y1, g1, _, rfl, rfl⟩, rfl⟩ := hx
    exact ⟨c0, c1, y0, y1, n, rfl, by simpa using g0, by simpa using g1⟩
end
end Go.Proofs.Ytcnbinjoeilfgaa
