/- Slices of slices of uint64: words for memory. -/
import Derived.Test.YtcnbinjoeilfgaaGS
namespace Go.Proofs.Ytcnbinjoeilfgaa
open Go.RowKit
/-- A slice of slices that can be read: for each its address, length and capacity. -/
def RdV (w : World) (a : Option Addr) (L : List (Option Addr × Nat × Nat)) : Prop :=
  L = [] ∨ ∃ b off, a = some ⟨b, off, none⟩ ∧ ∀ i, i < L.length → w.cell? ⟨b, off + i, none⟩ = some (.slice (L.getD i (none, 0, 0)).1 (L.getD i (none, 0, 0)).2.1 (L.getD i (none, 0, 0)).2.2)
theorem RdV.at {w : World} {a : Option Addr} {L : List (Option Addr × Nat × Nat)} (h : RdV w a L) (hl : 0 < L.length) : ∃ b off, a = some ⟨b, off, none⟩ ∧ ∀ i, i < L.length → w.cell? ⟨b, off + i, none⟩ = some (.slice (L.getD i (none, 0, 0)).1 (L.getD i (none, 0, 0)).2.1 (L.getD i (none, 0, 0)).2.2) := by
  rcases h with h | h
  · subst h; simp at hl
  · exact h
theorem RdV.ext {w w' : World} {a : Option Addr} {L : List (Option Addr × Nat × Nat)} (h : RdV w a L) (hx : Ext w w') : RdV w' a L := by
  rcases h with h | ⟨b, off, ha, hc⟩
  · exact .inl h
  · exact .inr ⟨b, off, ha, fun i hi => hx.cell (hc i hi)⟩
/-- A slice of slices of numbers that can be read. -/
def RdR (w : World) (a : Option Addr) (rows : List (List Nat)) : Prop :=
  ∃ L : List (Option Addr × Nat × Nat), RdV w a L ∧ L.length = rows.length ∧ ∀ i, i < rows.length → (L.getD i (none, 0, 0)).2.1 = (rows.getD i []).length ∧ Rd w (L.getD i (none, 0, 0)).1 (rows.getD i [])
theorem RdR.ext {w w' : World} {a : Option Addr} {rows : List (List Nat)} (h : RdR w a rows) (hx : Ext w w') : RdR w' a rows := by
  obtain ⟨L, h1, h2, h3⟩ := h
  exact ⟨L, h1.ext hx, h2, fun i hi => ⟨(h3 i hi).1, (h3 i hi).2.ext hx⟩⟩
theorem RdR.at {w : World} {a : Option Addr} {rows : List (List Nat)} (h : RdR w a rows) (hl : 0 < rows.length) :
    ∃ b off, a = some ⟨b, off, none⟩ ∧ ∀ i, i < rows.length → ∃ ar cr, w.cell? ⟨b, off + i, none⟩ = some (.slice ar (rows.getD i []).length cr) ∧ Rd w ar (rows.getD i []) := by
  obtain ⟨L, h1, h2, h3⟩ := h
  obtain ⟨b, off, ha, hc⟩ := h1.at (by omega)
  refine ⟨b, off, ha, fun i hi => ⟨(L.getD i (none, 0, 0)).1, (L.getD i (none, 0, 0)).2.2, ?_, (h3 i hi).2⟩⟩
  rw [hc i (by omega), (h3 i hi).1]
/-- An address, a length and a capacity as a cell. -/
abbrev SlC := Option Addr × Nat × Nat
def celV (x : SlC) : Value := .slice x.1 x.2.1 x.2.2
def celL (L : List SlC) : List Value := L.map celV
theorem celL_len (L : List SlC) : (celL L).length = L.length := by simp [celL]
theorem celL_get (L : List SlC) (i : Nat) (h : i < L.length) : (celL L)[i]? = some (.slice (L.getD i (none, 0, 0)).1 (L.getD i (none, 0, 0)).2.1 (L.getD i (none, 0, 0)).2.2) := by
  simp [celL, h, List.getD, celV]
theorem one_celL (L : List SlC) : ∀ u ∈ celL L, u.oneCell' = true := by
  intro u hu
  simp only [celL, List.mem_map] at hu
  obtain ⟨x, _, rfl⟩ := hu
  rfl
/-- A slice of slices of the call's own. -/
def OwnV (w : World) (base : Nat) (v : Value) (L : List SlC) : Prop := w.ownsRow base 23 1 v L.length (celL L)
theorem OwnV.nil (w : World) (base : Nat) : OwnV w base (.slice none 0 0) [] := World.ownsRow_nil _ _ _ _
theorem OwnV.grow {w w' : World} {base : Nat} {v : Value} {L : List SlC} (h : OwnV w base v L) (hx : Ext w w') : OwnV w' base v L := by
  refine ⟨h.1, ?_⟩
  rcases h.2 with hn | ⟨g, cap, cur, rfl, hb, hgg, rest⟩
  · exact .inl hn
  · exact .inr ⟨g, cap, cur, rfl, hb, (Below.block hx g (Array.getElem?_eq_some_iff.1 hgg).1).trans hgg, rest⟩
theorem OwnV.base {w : World} {base base' : Nat} {v : Value} {L : List SlC} (h : OwnV w base v L) (hb : base' ≤ base) : OwnV w base' v L := by
  refine ⟨h.1, ?_⟩
  rcases h.2 with hn | ⟨g, cap, cur, rfl, hg, rest⟩
  · exact .inl hn
  · exact .inr ⟨g, cap, cur, rfl, Nat.le_trans hb hg, rest⟩
theorem OwnV.baseLt {w : World} {base : Nat} {v : Value} {L : List SlC} (h : OwnV w base v L) : ∀ k, v.ownBlock = some k → base ≤ k := fun k hk => (World.ownsRow.lt h k hk).1
theorem OwnV.form {w : World} {base : Nat} {v : Value} {L : List SlC} (h : OwnV w base v L) : ∃ a c, v = .slice a L.length c ∧ L.length ≤ c ∧ RdV w a L := by
  rcases h.2 with ⟨rfl, hn⟩ | ⟨g, cap, cur, rfl, hb, hg, hnc, hm, hs, ht⟩
  · have : L = [] := List.eq_nil_of_length_eq_zero hn
    subst this
    exact ⟨none, 0, rfl, Nat.le_refl _, .inl rfl⟩
  · refine ⟨some ⟨g, 0, none⟩, cap, rfl, hnc, ?_⟩
    right
    refine ⟨g, 0, rfl, fun i hi => ?_⟩
    have hc := World.ownsRow.cells (w := w) h (g := g) rfl i _ (celL_get L i hi)
    have hadd : (⟨g, 0, none⟩ : Addr).add i = ⟨g, i, none⟩ := by unfold Addr.add; split <;> simp_all
    rw [hadd] at hc
    rw [Nat.zero_add]; exact hc
theorem info_sl : (Try.prog.info? 23).map (fun i => (i.zero, i.size, i.bytes)) = some (some (.slice none 0 0), 1, 24) := by kernel_rfl
/-- append onto a row of the call's own, with the place of what is returned: any element type. -/
theorem app_whereG (w : World) (base : Nat) (ty t e : TypeId) (i : TypeInfo) (z : Value) (size bytes : Nat) (ht : Try.prog.underlying t = some (.slice e)) (hi : Try.prog.info? e = some i) (hz0 : i.zero = some z) (hz1 : i.size = size) (hz2 : i.bytes = bytes) (hb : bytes ≤ 64)
    (v : Value) (n : Nat) (xs : List Value) (hown : w.ownsRow base e size v n xs) (a : Addr) (m c : Nat) (news : List Value) (hlen : news.length = m * size) (hnews : ∀ j u, news[j]? = some u → w.cell? (a.add j) = some u) (hone : ∀ u ∈ news, u.oneCell' = true) (hm0 : 0 < m) (hl : n + m ≤ 1000000000) :
    ∃ v' w', (Builtin.append_ #[t, t] ty #[v, .slice (some a) m c]).run Try.prog w = .ok v' w' ∧ (v'.ownBlock = v.ownBlock ∨ v'.ownBlock = some w.heap.size) := by
  have hlen' : news.length = m * i.size := by rw [hz1]; exact hlen
  have hbb : ∀ x : Nat, x ≤ 2000000000 → x * i.bytes ≤ 140737488355328 := fun x hx => by
    have := Nat.mul_le_mul hx hb
    rw [hz2]; omega
  rcases hown.2 with ⟨rfl, hn⟩ | ⟨g, cap, cur, rfl, hbg, hg, hnc, hcm, hcs, htake⟩
  · exact ⟨_, _, Go.run_append_nil (P := Try.prog) w t ty e i _ ht hi hz0 a m c news hlen' hnews (by omega) (by omega) (by have := hbb m (by omega); omega), .inr rfl⟩
  · by_cases hroom : n + m ≤ cap
    · have hfit : n * i.size + news.length ≤ cur.size := by
        rw [hlen, hcs, hz1, ← Nat.add_mul]; exact Nat.mul_le_mul_right _ hroom
      exact ⟨_, _, run_append_room (P := Try.prog) w t ty e i ht hi g n cap cur hg a m c news hlen' hnews hone hroom hfit, .inl rfl⟩
    · have holds := World.ownsRow.cells (w := w) hown (g := g) rfl
      exact ⟨_, _, run_append_grow (P := Try.prog) w t ty e i _ ht hi hz0 ⟨g, 0, none⟩ n cap xs (by rw [hz1]; exact hown.1) holds a m c news hlen' hnews (by omega) (by omega) (growslice_fits (by omega) (hbb (n + m) (by omega))), .inr rfl⟩
theorem wpList_appG {ops : Array Oper} {rest : List Oper} {o : Oper} {a : Act} {w : World} {Q : Exit → Act → World → Prop} (hgd : o.guard = none) (s x : Operand) (t e : TypeId) (i : TypeInfo) (z : Value) (size bytes : Nat)
    (ho : o.op = .call { callee := .builtin .append, args := #[s, x], argTypes := #[t, t] })
    (ht : Try.prog.underlying t = some (.slice e)) (hi : Try.prog.info? e = some i) (hz0 : i.zero = some z) (hz1 : i.size = size) (hz2 : i.bytes = bytes) (hzs : z.cells.size = size) (hsz : 0 < size) (hb : bytes ≤ 64)
    (base : Nat) (v : Value) (n : Nat) (xs : List Value) (hs : a.eval s = v) (hown : w.ownsRow base e size v n xs) (ad : Addr) (m c : Nat) (news : List Value) (hx : a.eval x = .slice (some ad) m c) (hlen : news.length = m * size) (hnews : ∀ j u, news[j]? = some u → w.cell? (ad.add j) = some u) (hone : ∀ u ∈ news, u.oneCell' = true) (hm0 : 0 < m) (hl : n + m ≤ 1000000000) (hbase : base ≤ w.heap.size)
    (h : ∀ v' w', w'.ownsRow base e size v' (n + m) (xs ++ news) → (∀ w0, Ext w0 w → w0.heap.size ≤ base → Ext w0 w') → (∀ k, k < w.heap.size → v.ownBlock ≠ some k → w'.heap[k]? = w.heap[k]?) → w.heap.size ≤ w'.heap.size → (v'.ownBlock = v.ownBlock ∨ v'.ownBlock = some w.heap.size) → wpList Try.prog ops Q rest (a.put o.dst v') w') : wpList Try.prog ops Q (o :: rest) a w := by
  refine wpList_plain hgd fun K hK => ?_
  obtain ⟨v1, w1, hr1, hwh⟩ := app_whereG w base o.type t e i z size bytes ht hi hz0 hz1 hz2 hb v n xs hown ad m c news hlen hnews hone hm0 hl
  obtain ⟨v', w', hr2, h2, h3, _⟩ := run_append_own (P := Try.prog) w base t o.type e i z size bytes ht hi hz0 hz1 hz2 hzs hsz v n xs hown ad m c news hlen hnews hone (by simp only [maxLen]; omega) (by
    have := Nat.mul_le_mul hl hb
    omega) hbase
  rw [hr1] at hr2
  injection hr2 with e1 e2
  subst e1 e2
  unfold Oper.wp execOp
  simp only [ho, resolve, invoke, builtin, Sem.run_bind, Sem.run_pure, Result.andThen_ok, List.map_toArray, List.map_cons, List.map_nil, hs, hx, hr1]
  exact hK _ _ (h v1 w1 h2 (fun w0 hx0 hb0 => Below.grown hx0 h3 hx0.size (fun k hk => Nat.le_trans hb0 (World.ownsRow.lt hown k hk).1)) (fun k hk hne => h3.block k hk (fun e => hne e.symm)) h3.size hwh)
/-- append(v, x), x a slice that was laid into a cell of its own. -/
theorem wpList_appV1 {ops : Array Oper} {rest : List Oper} {o : Oper} {a : Act} {w : World} {Q : Exit → Act → World → Prop} (hgd : o.guard = none) (s x : Operand)
    (ho : o.op = .call { callee := .builtin .append, args := #[s, x], argTypes := #[42, 42] })
    (base : Nat) (v : Value) (L : List SlC) (hs : a.eval s = v) (hown : OwnV w base v L) (g : Nat) (A : Option Addr) (m cc c : Nat)
    (hx : a.eval x = .slice (some ⟨g, 0, none⟩) 1 c) (hr : w.cell? ⟨g, 0, none⟩ = some (.slice A m cc)) (hl : L.length + 1 ≤ 1000000000) (hbase : base ≤ w.heap.size)
    (h : ∀ v' w', OwnV w' base v' (L ++ [(A, m, cc)]) → (∀ w0, Ext w0 w → w0.heap.size ≤ base → Ext w0 w') → (∀ k, k < w.heap.size → v.ownBlock ≠ some k → w'.heap[k]? = w.heap[k]?) → w.heap.size ≤ w'.heap.size → (v'.ownBlock = v.ownBlock ∨ v'.ownBlock = some w.heap.size) → wpList Try.prog ops Q rest (a.put o.dst v') w') : wpList Try.prog ops Q (o :: rest) a w := by
  obtain ⟨i0, hi, hz0, hz1, hz2⟩ := info_parts info_sl
  refine wpList_appG hgd s x 42 23 i0 (.slice none 0 0) 1 24 ho Try.underlying42 hi hz0 hz1 hz2 rfl (by decide) (by decide) base v L.length (celL L) hs hown ⟨g, 0, none⟩ 1 c (celL [(A, m, cc)]) hx (by simp [celL]) ?_ (one_celL _) (by decide) hl hbase ?_
  · intro j u hu
    have hj : j = 0 := by
      rcases Nat.eq_zero_or_pos j with e | e
      · exact e
      · rw [List.getElem?_eq_none (by simp [celL]; omega)] at hu; cases hu
    subst hj
    have hadd : (⟨g, 0, none⟩ : Addr).add 0 = ⟨g, 0, none⟩ := by unfold Addr.add; split <;> simp_all
    rw [hadd, hr]
    simpa [celL, celV] using hu
  · intro v' w' h2 h3 h4 h5 h6
    refine h v' w' ?_ h3 h4 h5 h6
    unfold OwnV
    have : celL (L ++ [(A, m, cc)]) = celL L ++ celL [(A, m, cc)] := by simp [celL]
    rw [this, List.length_append]; exact h2
/-- A slice lies in no block but those before n, and not in the block of v. -/
def Off (v : Value) (n : Nat) (a : Option Addr) : Prop := ∀ q : Addr, a = some q → q.block < n ∧ v.ownBlock ≠ some q.block
theorem Rd.keep {w w' : World} {a : Option Addr} {l : List Nat} (h : Rd w a l) (hk : ∀ q : Addr, a = some q → w'.heap[q.block]? = w.heap[q.block]?) : Rd w' a l := by
  rcases h with h | ⟨b, off, ha, hc⟩
  · exact .inl h
  · exact .inr ⟨b, off, ha, fun i hi => (World.cell?_of_block (w := w) (a := ⟨b, off + i, none⟩) (hk ⟨b, off, none⟩ ha)).trans (hc i hi)⟩
theorem Rd.keepV {w w' : World} {a : Option Addr} {l : List Nat} {v : Value} {n : Nat} (h : Rd w a l) (ho : Off v n a) (hn : n ≤ w.heap.size) (hk : ∀ k, k < w.heap.size → v.ownBlock ≠ some k → w'.heap[k]? = w.heap[k]?) : Rd w' a l :=
  h.keep fun q hq => hk _ (by have := (ho q hq).1; omega) (ho q hq).2
/-- Rows behind their slices. -/
def Rows2 (w : World) (L : List SlC) (rows : List (List Nat)) : Prop := L.length = rows.length ∧ ∀ i, i < rows.length → (L.getD i (none, 0, 0)).2.1 = (rows.getD i []).length ∧ Rd w (L.getD i (none, 0, 0)).1 (rows.getD i [])
theorem Rows2.ext {w w' : World} {L : List SlC} {rows : List (List Nat)} (h : Rows2 w L rows) (hx : Ext w w') : Rows2 w' L rows := ⟨h.1, fun i hi => ⟨(h.2 i hi).1, (h.2 i hi).2.ext hx⟩⟩
theorem Rows2.nil (w : World) : Rows2 w [] [] := ⟨rfl, fun i hi => by simp at hi⟩
theorem Rows2.snoc {w : World} {L : List SlC} {rows : List (List Nat)} (h : Rows2 w L rows) {A : Option Addr} {l : List Nat} {c : Nat} (hr : Rd w A l) : Rows2 w (L ++ [(A, l.length, c)]) (rows ++ [l]) := by
  refine ⟨by simp [h.1], fun i hi => ?_⟩
  rw [List.getD_eq_getElem?_getD, List.getD_eq_getElem?_getD]
  by_cases hlt : i < rows.length
  · rw [List.getElem?_append_left (by rw [h.1]; exact hlt), List.getElem?_append_left hlt, ← List.getD_eq_getElem?_getD, ← List.getD_eq_getElem?_getD]
    exact h.2 i hlt
  · have hi2 : i = rows.length := by simp at hi; omega
    subst hi2
    rw [List.getElem?_append_right (by rw [h.1]; exact Nat.le_refl _), List.getElem?_append_right (Nat.le_refl _), h.1]
    simpa using hr
theorem Rows2.rdR {w : World} {a : Option Addr} {L : List SlC} {rows : List (List Nat)} (h : Rows2 w L rows) (hr : RdV w a L) : RdR w a rows := ⟨L, hr, h.1, h.2⟩
theorem Own.place {w : World} {base n c : Nat} {a : Option Addr} {l : List Nat} (h : Own w base (.slice a n c) l) (q : Addr) (hq : a = some q) : base ≤ q.block ∧ q.block < w.heap.size := by
  subst hq
  rcases h.2 with ⟨hv, _⟩ | ⟨g, cap, cur, hv, hb, hg, _⟩
  · cases hv
  · injection hv with e1 _ _
    injection e1 with e1
    subst e1
    exact ⟨hb, (Array.getElem?_eq_some_iff.1 hg).1⟩
theorem Rows2.step {v7 v6 : Value} {wr wa w6 : World} {L : List SlC} {rows : List (List Nat)} {l : List Nat} {a5 : Option Addr} {c5 : Nat} (hr : Rows2 wr L rows) (hoff : ∀ i, i < L.length → Off v7 wr.heap.size (L.getD i (none, 0, 0)).1) (hx : Ext wr wa) (h5 : Rd wa a5 l) (ho5 : Off v7 wa.heap.size a5)
    (hk : ∀ k, k < wa.heap.size → v7.ownBlock ≠ some k → w6.heap[k]? = wa.heap[k]?) (hs : wa.heap.size ≤ w6.heap.size) (hb : v6.ownBlock = v7.ownBlock ∨ v6.ownBlock = some wa.heap.size) :
    Rows2 w6 (L ++ [(a5, l.length, c5)]) (rows ++ [l]) ∧ ∀ i, i < (L ++ [(a5, l.length, c5)]).length → Off v6 w6.heap.size ((L ++ [(a5, l.length, c5)]).getD i (none, 0, 0)).1 := by
  have hsz := hx.size
  constructor
  · refine Rows2.snoc ⟨hr.1, fun i hi => ⟨(hr.2 i hi).1, ?_⟩⟩ (h5.keepV ho5 (Nat.le_refl _) hk)
    exact ((hr.2 i hi).2.ext hx).keepV (hoff i (by rw [hr.1]; exact hi)) hsz hk
  · intro i hi
    have key : Off v7 wa.heap.size ((L ++ [(a5, l.length, c5)]).getD i (none, 0, 0)).1 := by
      rw [List.getD_eq_getElem?_getD]
      by_cases hlt : i < L.length
      · rw [List.getElem?_append_left hlt, ← List.getD_eq_getElem?_getD]
        intro q hq
        have := hoff i hlt q hq
        exact ⟨by omega, this.2⟩
      · have hi2 : i = L.length := by simp at hi; omega
        subst hi2
        rw [List.getElem?_append_right (Nat.le_refl _)]
        simpa using ho5
    intro q hq
    have h1 := key q hq
    refine ⟨by omega, ?_⟩
    rcases hb with e | e
    · rw [e]; exact h1.2
    · rw [e]; intro h; injection h with h; omega
theorem RdV.two {w : World} {g : Nat} {x y : SlC} (h0 : w.cell? ⟨g, 0, none⟩ = some (celV x)) (h1 : w.cell? ⟨g, 1, none⟩ = some (celV y)) : RdV w (some ⟨g, 0, none⟩) [x, y] :=
  .inr ⟨g, 0, rfl, fun i hi => by
    have h : i = 0 ∨ i = 1 := by simp at hi; omega
    rcases h with rfl | rfl
    · simpa [celV] using h0
    · simpa [celV] using h1⟩
theorem Rows2.two {w : World} {A B : Option Addr} {l m : List Nat} {c d : Nat} (h1 : Rd w A l) (h2 : Rd w B m) : Rows2 w [(A, l.length, c), (B, m.length, d)] [l, m] :=
  (Rows2.nil w).snoc h1 |>.snoc h2
end Go.Proofs.Ytcnbinjoeilfgaa
