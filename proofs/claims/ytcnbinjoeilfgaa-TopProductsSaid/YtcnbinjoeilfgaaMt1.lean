/- A matrix of the call's own: heads and rows that may be written. -/
import Derived.Test.YtcnbinjoeilfgaaMt0
import Derived.Test.YtcnbinjoeilfgaaTr2
namespace Go.Proofs.Ytcnbinjoeilfgaa
open Go.RowKit
/-- Block g holds exactly these slices. -/
def ArrV (w : World) (g : Nat) (L : List SlC) : Prop := w.heap[g]? = some (.cells (celL L).toArray 23 (0, 0))
section
variable {w w' : World} {g : Nat} {L : List SlC}
theorem ArrV.lt (h : ArrV w g L) : g < w.heap.size := (Array.getElem?_eq_some_iff.1 h).1
theorem ArrV.at (h : ArrV w g L) {i : Nat} (hi : i < L.length) : w.cell? ⟨g, i, none⟩ = some (.slice (L.getD i (none, 0, 0)).1 (L.getD i (none, 0, 0)).2.1 (L.getD i (none, 0, 0)).2.2) := by
  rw [cell_of_row w g i _ 23 (0, 0) h, List.getElem?_toArray]; exact celL_get L i hi
theorem ArrV.frozen (h : ArrV w g L) (i : Nat) : w.frozen? ⟨g, i, none⟩ = false := by
  unfold ArrV at h
  simp [World.frozen?, h]
theorem ArrV.ext (h : ArrV w g L) (hx : Ext w w') : ArrV w' g L := (Below.block hx g h.lt).trans h
theorem ArrV.but {k : Nat} (h : ArrV w g L) (hx : But k w w') (hne : g ≠ k) : ArrV w' g L := (hx.block g h.lt hne).trans h
theorem ArrV.set (h : ArrV w g L) (i : Nat) (x : SlC) : ArrV (w.setCell ⟨g, i, none⟩ (.slice x.1 x.2.1 x.2.2)) g (L.set i x) := by
  unfold ArrV at h ⊢
  have e : (celL L).toArray.setIfInBounds i (.slice x.1 x.2.1 x.2.2) = (celL (L.set i x)).toArray := by
    simp [celL, List.map_set, celV]
  rw [← e]
  simp [World.setCell, Array.getElem?_modify, h]
theorem ArrV.far (h : ArrV w g L) {p : Addr} (hp : g ≠ p.block) (u : Value) : ArrV (w.setCell p u) g L := (Below.heap_setCell w p u g hp).trans h
theorem ArrV.rdV (h : ArrV w g L) : RdV w (some ⟨g, 0, none⟩) L := .inr ⟨g, 0, rfl, fun i hi => by rw [Nat.zero_add]; exact h.at hi⟩
end
/-- Row i of a matrix: where it lies. -/
def rowG (L : List SlC) (i : Nat) : Nat := match (L.getD i (none, 0, 0)).1 with
  | some a => a.block
  | none => 0
structure RowOk (w : World) (base gm : Nat) (L : List SlC) (rows : List (List Nat)) (i : Nat) : Prop where
  adr : (L.getD i (none, 0, 0)).1 = some ⟨rowG L i, 0, none⟩
  len : (L.getD i (none, 0, 0)).2.1 = (rows.getD i []).length
  arr : Arr w (rowG L i) (rows.getD i []) (L.getD i (none, 0, 0)).2.2
  new : base ≤ rowG L i
  ne : rowG L i ≠ gm
/-- A matrix of the call's own; of its heads the first ones are filled. -/
structure Mat (w : World) (base gm : Nat) (L : List SlC) (rows : List (List Nat)) : Prop where
  len : rows.length ≤ L.length
  heads : ArrV w gm L
  new : base ≤ gm
  row : ∀ i, i < rows.length → RowOk w base gm L rows i
  dis : ∀ i j, i < rows.length → j < rows.length → i ≠ j → rowG L i ≠ rowG L j
section
variable {w w' : World} {base gm : Nat} {L : List SlC} {rows : List (List Nat)}
theorem Mat.ext (h : Mat w base gm L rows) (hx : Ext w w') : Mat w' base gm L rows :=
  ⟨h.len, h.heads.ext hx, h.new, fun i hi => ⟨(h.row i hi).adr, (h.row i hi).len, (h.row i hi).arr.ext hx, (h.row i hi).new, (h.row i hi).ne⟩, h.dis⟩
theorem Mat.rebase {b' : Nat} (h : Mat w base gm L rows) (hb : b' ≤ base) : Mat w b' gm L rows :=
  ⟨h.len, h.heads, Nat.le_trans hb h.new, fun i hi => ⟨(h.row i hi).adr, (h.row i hi).len, (h.row i hi).arr, Nat.le_trans hb (h.row i hi).new, (h.row i hi).ne⟩, h.dis⟩
/-- The head of row i. -/
theorem Mat.head (h : Mat w base gm L rows) {i : Nat} (hi : i < rows.length) : w.cell? ⟨gm, i, none⟩ = some (.slice (some ⟨rowG L i, 0, none⟩) (rows.getD i []).length (L.getD i (none, 0, 0)).2.2) := by
  rw [h.heads.at (by have := h.len; omega), (h.row i hi).adr, (h.row i hi).len]
/-- Element j of row i. -/
theorem Mat.at (h : Mat w base gm L rows) {i j : Nat} (hi : i < rows.length) (hj : j < (rows.getD i []).length) : w.cell? ⟨rowG L i, j, none⟩ = some (.int .u64 (((rows.getD i []).getD j 0 : Nat) : Int)) := (h.row i hi).arr.at hj
/-- m[i][j] = x. -/
theorem Mat.set (h : Mat w base gm L rows) {i : Nat} (hi : i < rows.length) (j x : Nat) (hj : j < (rows.getD i []).length) : Mat (w.setCell ⟨rowG L i, j, none⟩ (.int .u64 (x : Int))) base gm L (rows.set i ((rows.getD i []).set j x)) := by
  have g1 : ∀ k, (rows.set i ((rows.getD i []).set j x)).getD k [] = if k = i then (rows.getD i []).set j x else rows.getD k [] := fun k => by
    rw [List.getD_eq_getElem?_getD, List.getElem?_set]
    by_cases e : i = k
    · subst e; rw [if_pos rfl, if_pos hi, if_pos rfl]; rfl
    · rw [if_neg e, if_neg (fun q => e q.symm), ← List.getD_eq_getElem?_getD]
  refine ⟨by rw [List.length_set]; exact h.len, h.heads.far (fun q => (h.row i hi).ne q.symm) _, h.new, fun k hk => ?_, fun a b ha hb => h.dis a b (by simpa using ha) (by simpa using hb)⟩
  rw [List.length_set] at hk
  have hr := h.row k hk
  by_cases e : k = i
  · subst e
    refine ⟨hr.adr, by rw [g1, if_pos rfl, List.length_set]; exact hr.len, ?_, hr.new, hr.ne⟩
    rw [g1, if_pos rfl]; exact hr.arr.set j x hj
  · refine ⟨hr.adr, by rw [g1, if_neg e]; exact hr.len, ?_, hr.new, hr.ne⟩
    rw [g1, if_neg e]; exact hr.arr.far (fun q => h.dis k i hk hi e q) _
theorem swap_getD {α : Type} (l : List α) (d : α) (i j k : Nat) (hi : i < l.length) (hj : j < l.length) : ((l.set i (l.getD j d)).set j (l.getD i d)).getD k d = if k = j then l.getD i d else if k = i then l.getD j d else l.getD k d := by
  rw [List.getD_eq_getElem?_getD, List.getElem?_set]
  by_cases e : j = k
  · subst e; rw [if_pos rfl, if_pos (by rw [List.length_set]; exact hj), if_pos rfl]; rfl
  · rw [if_neg e, if_neg (fun q => e q.symm), List.getElem?_set]
    by_cases e2 : i = k
    · subst e2; rw [if_pos rfl, if_pos hi, if_pos rfl]; rfl
    · rw [if_neg e2, if_neg (fun q => e2 q.symm), ← List.getD_eq_getElem?_getD]
theorem sw_inj {i j a b : Nat} (h : a ≠ b) : (if a = j then i else if a = i then j else a) ≠ (if b = j then i else if b = i then j else b) := by
  intro q
  by_cases e1 : a = j
  · rw [if_pos e1] at q
    by_cases e3 : b = j
    · omega
    · rw [if_neg e3] at q
      by_cases e4 : b = i
      · rw [if_pos e4] at q; omega
      · rw [if_neg e4] at q; omega
  · rw [if_neg e1] at q
    by_cases e2 : a = i
    · rw [if_pos e2] at q
      by_cases e3 : b = j
      · rw [if_pos e3] at q; omega
      · rw [if_neg e3] at q
        by_cases e4 : b = i
        · omega
        · rw [if_neg e4] at q; omega
    · rw [if_neg e2] at q
      by_cases e3 : b = j
      · rw [if_pos e3] at q; omega
      · rw [if_neg e3] at q
        by_cases e4 : b = i
        · rw [if_pos e4] at q; omega
        · rw [if_neg e4] at q; omega
/-- m[i], m[j] = m[j], m[i]. -/
theorem Mat.swap (h : Mat w base gm L rows) {i j : Nat} (hi : i < rows.length) (hj : j < rows.length)
    (hw : ArrV w' gm ((L.set i (L.getD j (none, 0, 0))).set j (L.getD i (none, 0, 0)))) (hb : But gm w w') : Mat w' base gm ((L.set i (L.getD j (none, 0, 0))).set j (L.getD i (none, 0, 0))) ((rows.set i (rows.getD j [])).set j (rows.getD i [])) := by
  have hiL : i < L.length := by have := h.len; omega
  have hjL : j < L.length := by have := h.len; omega
  have gL := fun k => swap_getD L (none, 0, 0) i j k hiL hjL
  have gR := fun k => swap_getD rows [] i j k hi hj
  have gG : ∀ k, rowG ((L.set i (L.getD j (none, 0, 0))).set j (L.getD i (none, 0, 0))) k = rowG L (if k = j then i else if k = i then j else k) := fun k => by
    unfold rowG
    rw [gL]
    by_cases e1 : k = j
    · rw [if_pos e1, if_pos e1]
    · rw [if_neg e1, if_neg e1]
      by_cases e2 : k = i
      · rw [if_pos e2, if_pos e2]
      · rw [if_neg e2, if_neg e2]
  have gl : ∀ k, ((L.set i (L.getD j (none, 0, 0))).set j (L.getD i (none, 0, 0))).getD k (none, 0, 0) = L.getD (if k = j then i else if k = i then j else k) (none, 0, 0) := fun k => by
    rw [gL]
    by_cases e1 : k = j
    · rw [if_pos e1, if_pos e1]
    · rw [if_neg e1, if_neg e1]
      by_cases e2 : k = i
      · rw [if_pos e2, if_pos e2]
      · rw [if_neg e2, if_neg e2]
  have gr : ∀ k, ((rows.set i (rows.getD j [])).set j (rows.getD i [])).getD k [] = rows.getD (if k = j then i else if k = i then j else k) [] := fun k => by
    rw [gR]
    by_cases e1 : k = j
    · rw [if_pos e1, if_pos e1]
    · rw [if_neg e1, if_neg e1]
      by_cases e2 : k = i
      · rw [if_pos e2, if_pos e2]
      · rw [if_neg e2, if_neg e2]
  have hs : ∀ k, k < rows.length → (if k = j then i else if k = i then j else k) < rows.length := fun k hk => by
    by_cases e1 : k = j
    · rw [if_pos e1]; exact hi
    · rw [if_neg e1]
      by_cases e2 : k = i
      · rw [if_pos e2]; exact hj
      · rw [if_neg e2]; exact hk
  refine ⟨by simp [h.len], hw, h.new, fun k hk => ?_, fun a b ha hb' hab => ?_⟩
  · have hk2 : k < rows.length := by simpa using hk
    have hr := h.row _ (hs k hk2)
    refine ⟨by rw [gl, gG]; exact hr.adr, by rw [gl, gr]; exact hr.len, ?_, by rw [gG]; exact hr.new, by rw [gG]; exact hr.ne⟩
    rw [gG, gr, gl]; exact hb.arr hr.arr hr.ne
  · have ha2 : a < rows.length := by simpa using ha
    have hb2 : b < rows.length := by simpa using hb'
    rw [gG, gG]
    exact h.dis _ _ (hs a ha2) (hs b hb2) (sw_inj hab)
theorem Mat.rdR (h : Mat w base gm L rows) (hl : L.length = rows.length) : RdR w (some ⟨gm, 0, none⟩) rows :=
  ⟨L, h.heads.rdV, hl, fun i hi => ⟨(h.row i hi).len, by rw [(h.row i hi).adr]; exact (h.row i hi).arr.rd⟩⟩
/-- m[i] = a slice of its own, the first head that is not filled. -/
theorem Mat.snoc (h : Mat w base gm L rows) {g c : Nat} {r : List Nat} (hl : rows.length < L.length) (ha : Arr w g r c) (hb : base ≤ g) (hg : g ≠ gm) (hd : ∀ i, i < rows.length → rowG L i ≠ g) :
    Mat (w.setCell ⟨gm, rows.length, none⟩ (.slice (some ⟨g, 0, none⟩) r.length c)) base gm (L.set rows.length (some (⟨g, 0, none⟩ : Addr), r.length, c)) (rows ++ [r]) := by
  have gl : ∀ k, (L.set rows.length (some (⟨g, 0, none⟩ : Addr), r.length, c)).getD k (none, 0, 0) = if k = rows.length then (some (⟨g, 0, none⟩ : Addr), r.length, c) else L.getD k (none, 0, 0) := fun k => by
    rw [List.getD_eq_getElem?_getD, List.getElem?_set]
    by_cases e : rows.length = k
    · subst e; rw [if_pos rfl, if_pos hl, if_pos rfl]; rfl
    · rw [if_neg e, if_neg (fun q => e q.symm), ← List.getD_eq_getElem?_getD]
  have gG : ∀ k, rowG (L.set rows.length (some (⟨g, 0, none⟩ : Addr), r.length, c)) k = if k = rows.length then g else rowG L k := fun k => by
    unfold rowG
    rw [gl]
    by_cases e : k = rows.length
    · rw [if_pos e, if_pos e]
    · rw [if_neg e, if_neg e]
  have gr : ∀ k, k < rows.length → (rows ++ [r]).getD k [] = rows.getD k [] := fun k hk => by
    rw [List.getD_eq_getElem?_getD, List.getElem?_append_left hk, ← List.getD_eq_getElem?_getD]
  have gr2 : (rows ++ [r]).getD rows.length [] = r := by
    rw [List.getD_eq_getElem?_getD, List.getElem?_append_right (Nat.le_refl _)]; simp
  refine ⟨by simp; omega, h.heads.set rows.length (some (⟨g, 0, none⟩ : Addr), r.length, c), h.new, fun i hi => ?_, fun i j hi hj hij => ?_⟩
  · by_cases e : i = rows.length
    · subst e
      exact ⟨by rw [gl, gG, if_pos rfl, if_pos rfl], by rw [gl, if_pos rfl, gr2], by rw [gG, gl, gr2, if_pos rfl, if_pos rfl]; exact ha.far hg _, by rw [gG, if_pos rfl]; exact hb, by rw [gG, if_pos rfl]; exact hg⟩
    · have hi2 : i < rows.length := by simp at hi; omega
      have hr := h.row i hi2
      exact ⟨by rw [gl, gG, if_neg e, if_neg e]; exact hr.adr, by rw [gl, if_neg e, gr i hi2]; exact hr.len, by rw [gG, gl, gr i hi2, if_neg e, if_neg e]; exact hr.arr.far hr.ne _, by rw [gG, if_neg e]; exact hr.new, by rw [gG, if_neg e]; exact hr.ne⟩
  · rw [gG, gG]
    have hi2 : i ≤ rows.length := by simp at hi; omega
    have hj2 : j ≤ rows.length := by simp at hj; omega
    by_cases e : i = rows.length
    · rw [if_pos e, if_neg (by omega)]
      exact fun q => hd j (by omega) q.symm
    · rw [if_neg e]
      by_cases e2 : j = rows.length
      · rw [if_pos e2]; exact hd i (by omega)
      · rw [if_neg e2]; exact h.dis i j (by omega) (by omega) hij
/-- m[i] = a slice of its own in the place of row i. -/
theorem Mat.put (h : Mat w base gm L rows) {i g c : Nat} {r : List Nat} (hi : i < rows.length) (ha : Arr w g r c) (hb : base ≤ g) (hg : g ≠ gm) (hd : ∀ j, j < rows.length → j ≠ i → rowG L j ≠ g) :
    Mat (w.setCell ⟨gm, i, none⟩ (.slice (some ⟨g, 0, none⟩) r.length c)) base gm (L.set i (some (⟨g, 0, none⟩ : Addr), r.length, c)) (rows.set i r) := by
  have hiL : i < L.length := by have := h.len; omega
  have gl : ∀ k, (L.set i (some (⟨g, 0, none⟩ : Addr), r.length, c)).getD k (none, 0, 0) = if k = i then (some (⟨g, 0, none⟩ : Addr), r.length, c) else L.getD k (none, 0, 0) := fun k => by
    rw [List.getD_eq_getElem?_getD, List.getElem?_set]
    by_cases e : i = k
    · subst e; rw [if_pos rfl, if_pos hiL, if_pos rfl]; rfl
    · rw [if_neg e, if_neg (fun q => e q.symm), ← List.getD_eq_getElem?_getD]
  have gR : ∀ k, (rows.set i r).getD k [] = if k = i then r else rows.getD k [] := fun k => by
    rw [List.getD_eq_getElem?_getD, List.getElem?_set]
    by_cases e : i = k
    · subst e; rw [if_pos rfl, if_pos hi, if_pos rfl]; rfl
    · rw [if_neg e, if_neg (fun q => e q.symm), ← List.getD_eq_getElem?_getD]
  have gG : ∀ k, rowG (L.set i (some (⟨g, 0, none⟩ : Addr), r.length, c)) k = if k = i then g else rowG L k := fun k => by
    unfold rowG
    rw [gl]
    by_cases e : k = i
    · rw [if_pos e, if_pos e]
    · rw [if_neg e, if_neg e]
  refine ⟨by simp; exact h.len, h.heads.set i (some (⟨g, 0, none⟩ : Addr), r.length, c), h.new, fun k hk => ?_, fun a b ha' hb' hab => ?_⟩
  · have hk2 : k < rows.length := by simpa using hk
    have hr := h.row k hk2
    by_cases e : k = i
    · subst e
      exact ⟨by rw [gl, gG, if_pos rfl, if_pos rfl], by rw [gl, gR, if_pos rfl, if_pos rfl], by rw [gG, gl, gR, if_pos rfl, if_pos rfl, if_pos rfl]; exact ha.far hg _, by rw [gG, if_pos rfl]; exact hb, by rw [gG, if_pos rfl]; exact hg⟩
    · exact ⟨by rw [gl, gG, if_neg e, if_neg e]; exact hr.adr, by rw [gl, gR, if_neg e, if_neg e]; exact hr.len, by rw [gG, gl, gR, if_neg e, if_neg e, if_neg e]; exact hr.arr.far hr.ne _, by rw [gG, if_neg e]; exact hr.new, by rw [gG, if_neg e]; exact hr.ne⟩
  · have ha2 : a < rows.length := by simpa using ha'
    have hb2 : b < rows.length := by simpa using hb'
    rw [gG, gG]
    by_cases e : a = i
    · rw [if_pos e, if_neg (by omega)]
      exact fun q => hd b hb2 (by omega) q.symm
    · rw [if_neg e]
      by_cases e2 : b = i
      · rw [if_pos e2]; exact hd a ha2 (by omega)
      · rw [if_neg e2]; exact h.dis a b ha2 hb2 hab
end
end Go.Proofs.Ytcnbinjoeilfgaa
