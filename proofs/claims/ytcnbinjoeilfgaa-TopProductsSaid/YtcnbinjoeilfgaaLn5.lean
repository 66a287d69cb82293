/- What elimination keeps: a matrix of the call's own, the field's box, the pivots. -/
import Derived.Test.YtcnbinjoeilfgaaLn4
import Derived.Test.YtcnbinjoeilfgaaSlJ
namespace Go.Proofs.Ytcnbinjoeilfgaa
open Go.RowKit
theorem But.ownI {g base : Nat} {w w' : World} {v : Value} {l : List Int} (h : But g w w') (ho : OwnI w base v l) (hne : v.ownBlock ≠ some g) : OwnI w' base v l := by
  refine ⟨ho.1, ?_⟩
  rcases ho.2 with hn | ⟨k, cap, cur, rfl, hb, hk, rest⟩
  · exact .inl hn
  · exact .inr ⟨k, cap, cur, rfl, hb, (h.block k (Array.getElem?_eq_some_iff.1 hk).1 (fun e => hne (by rw [e]; rfl))).trans hk, rest⟩
theorem ArrV.same {w w' : World} {g : Nat} {L : List SlC} (h : ArrV w g L) (hx : w'.heap[g]? = w.heap[g]?) : ArrV w' g L := hx.trans h
theorem Arr.same {w w' : World} {g c : Nat} {l : List Nat} (h : Arr w g l c) (hx : w'.heap[g]? = w.heap[g]?) : Arr w' g l c := by
  obtain ⟨cur, h1, h2⟩ := h
  exact ⟨cur, hx.trans h1, h2⟩
/-- The state of elimination. -/
structure EInv (w0 : World) (p hb gm : Nat) (L : List SlC) (rows : List (List Nat)) (v : Value) (pl : List Int) (wr : World) : Prop where
  mat : Mat wr w0.heap.size gm L rows
  llen : L.length = rows.length
  low : ∀ i, i < rows.length → rowG L i < hb
  glow : gm < hb
  box : wr.cell? ⟨hb, 0, none⟩ = some (.int .u64 (p : Int))
  ext : Ext w0 wr
  size : hb < wr.heap.size
  piv : OwnI wr (hb + 1) v pl
section
variable {w0 : World} {p hb gm : Nat} {L : List SlC} {rows : List (List Nat)} {v : Value} {pl : List Int} {wr w' : World}
theorem EInv.grow (h : EInv w0 p hb gm L rows v pl wr) (hx : Ext wr w') : EInv w0 p hb gm L rows v pl w' :=
  ⟨h.mat.ext hx, h.llen, h.low, h.glow, hx.cell h.box, h.ext.trans hx, by have := hx.size; have := h.size; omega, h.piv.grow hx⟩
theorem EInv.set (h : EInv w0 p hb gm L rows v pl wr) {i : Nat} (hi : i < rows.length) (j x : Nat) (hj : j < (rows.getD i []).length) :
    EInv w0 p hb gm L (rows.set i ((rows.getD i []).set j x)) v pl (wr.setCell ⟨rowG L i, j, none⟩ (.int .u64 (x : Int))) := by
  have hl := h.low i hi
  have hB := But.set wr (rowG L i) j (.int .u64 (x : Int))
  refine ⟨h.mat.set hi j x hj, by rw [List.length_set]; exact h.llen, fun k hk => h.low k (by simpa using hk), h.glow, hB.cell h.box (by show hb ≠ _; omega), h.ext.setNew (h.mat.row i hi).new _, by have := hB.size; have := h.size; omega, hB.ownI h.piv (fun q => ?_)⟩
  have := h.piv.baseLt _ q
  omega
theorem EInv.swap (h : EInv w0 p hb gm L rows v pl wr) {i j : Nat} (hi : i < rows.length) (hj : j < rows.length) :
    EInv w0 p hb gm ((L.set i (L.getD j (none, 0, 0))).set j (L.getD i (none, 0, 0))) ((rows.set i (rows.getD j [])).set j (rows.getD i [])) v pl
      ((wr.setCell ⟨gm, i, none⟩ (.slice (some ⟨rowG L j, 0, none⟩) (rows.getD j []).length (L.getD j (none, 0, 0)).2.2)).setCell ⟨gm, j, none⟩ (.slice (some ⟨rowG L i, 0, none⟩) (rows.getD i []).length (L.getD i (none, 0, 0)).2.2)) := by
  have hL := h.llen
  have hB1 := But.set wr gm i (.slice (some ⟨rowG L j, 0, none⟩) (rows.getD j []).length (L.getD j (none, 0, 0)).2.2)
  have hB2 := But.set (wr.setCell ⟨gm, i, none⟩ (.slice (some ⟨rowG L j, 0, none⟩) (rows.getD j []).length (L.getD j (none, 0, 0)).2.2)) gm j (.slice (some ⟨rowG L i, 0, none⟩) (rows.getD i []).length (L.getD i (none, 0, 0)).2.2)
  have hB := hB1.trans hB2
  have a1 := h.mat.heads.set i (L.getD j (none, 0, 0))
  rw [(h.mat.row j hj).adr, (h.mat.row j hj).len] at a1
  have a2 := a1.set j (L.getD i (none, 0, 0))
  rw [(h.mat.row i hi).adr, (h.mat.row i hi).len] at a2
  have gG : ∀ k, rowG ((L.set i (L.getD j (none, 0, 0))).set j (L.getD i (none, 0, 0))) k = rowG L (if k = j then i else if k = i then j else k) := fun k => by
    unfold rowG
    rw [swap_getD L (none, 0, 0) i j k (by omega) (by omega)]
    by_cases e1 : k = j
    · rw [if_pos e1, if_pos e1]
    · rw [if_neg e1, if_neg e1]
      by_cases e2 : k = i
      · rw [if_pos e2, if_pos e2]
      · rw [if_neg e2, if_neg e2]
  refine ⟨h.mat.swap hi hj a2 hB, by simp [hL], fun k hk => ?_, h.glow, hB.cell h.box (by show hb ≠ _; have := h.glow; omega), (h.ext.setNew h.mat.new _).setNew h.mat.new _, by have := hB.size; have := h.size; omega, hB.ownI h.piv (fun q => by have := h.piv.baseLt _ q; have := h.glow; omega)⟩
  have hk2 : k < rows.length := by simpa using hk
  rw [gG]
  apply h.low
  by_cases e1 : k = j
  · rw [if_pos e1]; exact hi
  · rw [if_neg e1]
    by_cases e2 : k = i
    · rw [if_pos e2]; exact hj
    · rw [if_neg e2]; exact hk2
theorem EInv.app (h : EInv w0 p hb gm L rows v pl wr) {v' : Value} {pl' : List Int} (hs : w0.heap.size ≤ hb) (hx : ∀ w0, Ext w0 wr → w0.heap.size ≤ hb + 1 → Ext w0 w') (hk : ∀ k, k < wr.heap.size → v.ownBlock ≠ some k → w'.heap[k]? = wr.heap[k]?) (ho : OwnI w' (hb + 1) v' pl') : EInv w0 p hb gm L rows v' pl' w' := by
  have hsz := h.size
  have hk2 : ∀ k, k < hb + 1 → w'.heap[k]? = wr.heap[k]? := fun k hlt => hk k (by omega) (fun q => by have := h.piv.baseLt _ q; omega)
  have hbk := hk2 hb (by omega)
  refine ⟨⟨h.mat.len, h.mat.heads.same (hk2 gm (by have := h.glow; omega)), h.mat.new, fun i hi => ?_, h.mat.dis⟩, h.llen, h.low, h.glow, (World.cell?_of_block (w := wr) (a := ⟨hb, 0, none⟩) hbk).trans h.box, hx _ h.ext (by omega), ?_, ho⟩
  · have r := h.mat.row i hi
    exact ⟨r.adr, r.len, r.arr.same (hk2 _ (by have := h.low i hi; omega)), r.new, r.ne⟩
  · rcases Nat.lt_or_ge hb w'.heap.size with q | q
    · exact q
    · rw [Array.getElem?_eq_none q, Array.getElem?_eq_getElem hsz] at hbk; cases hbk
end
end Go.Proofs.Ytcnbinjoeilfgaa
