/- append onto a slice of int of the call's own, with the place of what is returned. -/
import Derived.Test.YtndiaamoapidoaaSlI
namespace Go.Proofs.Ytndiaamoapidoaa
open Go.RowKit

theorem RdI.news {w : World} {ad : Addr} {y : List Int} (hr : RdI w (some ad) y) : ∀ j u, (rowLI y)[j]? = some u → w.cell? (ad.add j) = some u := by
  intro j u hu
  rcases hr with hy | ⟨b, off, hb, hc⟩
  · subst hy; simp [rowLI] at hu
  · have hj : j < y.length := by
      rcases Nat.lt_or_ge j y.length with hj | hj
      · exact hj
      · rw [List.getElem?_eq_none (by rw [rowL_lenI]; exact hj)] at hu; cases hu
    rw [rowL_getI y j hj] at hu
    replace hb := Option.some.inj hb
    subst hb
    have hadd : (⟨b, off, none⟩ : Addr).add j = ⟨b, off + j, none⟩ := by unfold Addr.add; split <;> simp_all
    rw [hadd, hc j hj, hu]

theorem app_where (w : World) (base : Nat) (ty : TypeId) (v : Value) (l : List Int) (hown : OwnI w base v l) (a : Addr) (y : List Int) (c : Nat) (hr : RdI w (some a) y) (hl : l.length + y.length ≤ 1000000000) :
    ∃ v' w', (Builtin.append_ #[25, 25] ty #[v, .slice (some a) y.length c]).run Try.prog w = .ok v' w' ∧ (v'.ownBlock = v.ownBlock ∨ v'.ownBlock = some w.heap.size) := by
  obtain ⟨i, hi, hz0, hz1, hz2⟩ := info_parts info_u64I
  have ht : Try.prog.underlying 25 = some (.slice 3) := Try.underlying25
  have hlen : (rowLI y).length = y.length * i.size := by rw [hz1, rowL_lenI, Nat.mul_one]
  have hnews := hr.news
  rcases hown.2 with ⟨rfl, hn⟩ | ⟨g, cap, cur, rfl, hbg, hg, hnc, hcm, hcs, htake⟩
  · by_cases hm : y.length = 0
    · have hy : y = [] := List.eq_nil_of_length_eq_zero hm
      subst hy
      refine ⟨.slice none 0 0, w, ?_, .inl rfl⟩
      simp [Builtin.append_, run_underlying ht, sizeOf, typeInfo, hi, Builtin.lenOf, Builtin.firstCells, loadCells, loadCellsFrom]
    · exact ⟨_, _, Go.run_append_nil (P := Try.prog) w 25 ty 3 i _ ht hi hz0 a y.length c (rowLI y) hlen hnews (by omega) (by omega) (by rw [hz2]; omega), .inr rfl⟩
  · by_cases hroom : l.length + y.length ≤ cap
    · have hfit : l.length * i.size + (rowLI y).length ≤ cur.size := by rw [hlen, hcs, hz1]; omega
      exact ⟨_, _, run_append_room (P := Try.prog) w 25 ty 3 i ht hi g l.length cap cur hg a y.length c (rowLI y) hlen hnews (one_rowLI y) hroom hfit, .inl rfl⟩
    · have holds := World.ownsRow.cells (w := w) hown (g := g) rfl
      exact ⟨_, _, run_append_grow (P := Try.prog) w 25 ty 3 i _ ht hi hz0 ⟨g, 0, none⟩ l.length cap (rowLI l) (by rw [hz1]; exact hown.1) holds a y.length c (rowLI y) hlen hnews (by omega) (by omega) (growslice_fits (by omega) (by rw [hz2]; omega)), .inr rfl⟩

/-- append(v, x...), x a slice that reads as y. -/
theorem wpList_appJ {ops : Array Oper} {rest : List Oper} {o : Oper} {a : Act} {w : World} {Q : Exit → Act → World → Prop} (hgd : o.guard = none) (s x : Operand)
    (ho : o.op = .call { callee := .builtin .append, args := #[s, x], argTypes := #[25, 25] })
    (base : Nat) (v : Value) (l : List Int) (hs : a.eval s = v) (hown : OwnI w base v l) (A : Option Addr) (y : List Int) (c : Nat)
    (hx : a.eval x = .slice A y.length c) (hr : RdI w A y) (hl : l.length + y.length ≤ 1000000000) (hbase : base ≤ w.heap.size)
    (h : ∀ v' w', OwnI w' base v' (l ++ y) → (∀ w0, Ext w0 w → w0.heap.size ≤ base → Ext w0 w') → (∀ k, k < w.heap.size → v.ownBlock ≠ some k → w'.heap[k]? = w.heap[k]?) → w.heap.size ≤ w'.heap.size → (v'.ownBlock = v.ownBlock ∨ v'.ownBlock = some w.heap.size) → wpList Try.prog ops Q rest (a.put o.dst v') w') : wpList Try.prog ops Q (o :: rest) a w := by
  have hnil : A = none → y = [] := fun e => by
    rcases hr with h | ⟨b, off, hb, _⟩
    · exact h
    · rw [e] at hb; cases hb
  cases A with
  | none =>
    have hy := hnil rfl
    subst hy
    refine wpList_plain hgd fun K hK => ?_
    have hrun := run_append_nilI w base o.type v l hown c
    unfold Oper.wp execOp
    simp only [ho, resolve, invoke, builtin, Sem.run_bind, Sem.run_pure, Result.andThen_ok, List.map_toArray, List.map_cons, List.map_nil, hs, hx, List.length_nil, hrun]
    exact hK _ _ (h v w (by simpa using hown) (fun _ h _ => h) (fun _ _ _ => rfl) (Nat.le_refl _) (.inl rfl))
  | some ad =>
    obtain ⟨i0, hi, hz0, hz1, hz2⟩ := info_parts info_u64I
    refine wpList_plain hgd fun K hK => ?_
    obtain ⟨v1, w1, hr1, hwh⟩ := app_where w base o.type v l hown ad y c hr hl
    obtain ⟨v', w', hr2, h2, h3, _⟩ := run_append_own (P := Try.prog) w base 25 o.type 3 i0 (.int .i64 0) 1 8 Try.underlying25 hi hz0 hz1 hz2 rfl (by decide) v l.length (rowLI l) hown ad y.length c (rowLI y) (by simp [rowL_lenI]) hr.news (one_rowLI y) (by simp only [maxLen]; omega) (by omega) hbase
    rw [hr1] at hr2
    injection hr2 with e1 e2
    subst e1 e2
    unfold Oper.wp execOp
    simp only [ho, resolve, invoke, builtin, Sem.run_bind, Sem.run_pure, Result.andThen_ok, List.map_toArray, List.map_cons, List.map_nil, hs, hx, hr1]
    refine hK _ _ (h v1 w1 ?_ (fun w0 hx0 hb0 => ?_) (fun k hk hne => h3.block k hk (fun e => hne e.symm)) h3.size hwh)
    · unfold OwnI
      rw [rowL_appI, List.length_append]; exact h2
    · exact Below.grown hx0 h3 hx0.size (fun k hk => Nat.le_trans hb0 (hown.baseLt k hk))
/-- The same of one element that was laid into a cell of its own. -/
theorem wpList_app1J {ops : Array Oper} {rest : List Oper} {o : Oper} {a : Act} {w : World} {Q : Exit → Act → World → Prop} (hgd : o.guard = none) (s x : Operand)
    (ho : o.op = .call { callee := .builtin .append, args := #[s, x], argTypes := #[25, 25] })
    (base : Nat) (v : Value) (l : List Int) (hs : a.eval s = v) (hown : OwnI w base v l) (g : Nat) (y : Int) (c : Nat)
    (hx : a.eval x = .slice (some ⟨g, 0, none⟩) 1 c) (hr : w.cell? ⟨g, 0, none⟩ = some (.int .i64 y)) (hl : l.length + 1 ≤ 1000000000) (hbase : base ≤ w.heap.size)
    (h : ∀ v' w', OwnI w' base v' (l ++ [y]) → (∀ w0, Ext w0 w → w0.heap.size ≤ base → Ext w0 w') → (∀ k, k < w.heap.size → v.ownBlock ≠ some k → w'.heap[k]? = w.heap[k]?) → w.heap.size ≤ w'.heap.size → (v'.ownBlock = v.ownBlock ∨ v'.ownBlock = some w.heap.size) → wpList Try.prog ops Q rest (a.put o.dst v') w') : wpList Try.prog ops Q (o :: rest) a w :=
  wpList_appJ hgd s x ho base v l hs hown (some ⟨g, 0, none⟩) [y] c hx (.inr ⟨g, 0, rfl, fun i hi => by
    have : i = 0 := by simpa using hi
    subst this; simpa using hr⟩) (by simpa using hl) hbase h
theorem OwnI.keep {w w' : World} {base : Nat} {v : Value} {l : List Int} (ho : OwnI w base v l) (h : ∀ k, k < w.heap.size → v.ownBlock = some k → w'.heap[k]? = w.heap[k]?) : OwnI w' base v l := by
  refine ⟨ho.1, ?_⟩
  rcases ho.2 with hn | ⟨g', cap, cur, rfl, hb, hgg, rest⟩
  · exact .inl hn
  · exact .inr ⟨g', cap, cur, rfl, hb, (h g' (Array.getElem?_eq_some_iff.1 hgg).1 rfl).trans hgg, rest⟩
theorem OwnI.ltB {w : World} {base : Nat} {v : Value} {l : List Int} (ho : OwnI w base v l) {k : Nat} (h : v.ownBlock = some k) : k < w.heap.size := (World.ownsRow.lt ho k h).2
end Go.Proofs.Ytndiaamoapidoaa
