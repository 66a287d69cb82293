/- Contracts: (*strings.Builder).WriteString and String. -/
import Derived.Test.YtcheigpejbmaoaaDoorAsW
namespace Go.Proofs.YtcheigpejbmaoaaDoor
open Go.RowKit
theorem app_where8 (w : World) (ty : TypeId) (v : Value) (n : Nat) (xs : List Value) (hown : w.ownsRow 0 5 1 v n xs) (s : ByteArray) (hbytes : n + s.size ≤ 140737488355328) :
    ∃ v' w', (Builtin.append_ #[76, 9] ty #[v, .string s]).run Tryd.prog w = .ok v' w' ∧ (v'.ownBlock = v.ownBlock ∨ v'.ownBlock = some w.heap.size) := by
  obtain ⟨i, hi, hz, hs1, hby⟩ := info_parts info_u8
  have ht := Tryd.underlying76
  have hu := Tryd.underlying9
  have hxl : xs.length = n := by simpa using hown.1
  rcases hown.2 with ⟨rfl, rfl⟩ | ⟨g, cap, cur, rfl, hbg, hg, hnc, hcm, hcs, htake⟩
  · have hx : xs = [] := List.eq_nil_of_length_eq_zero hxl
    subst hx
    by_cases hm : s.size = 0
    · refine ⟨.slice none 0 0, w, ?_, .inl rfl⟩
      have hf := Lib.run_firstCells_string (P := Tryd.prog) w 1 s
      have hn : Lib.strCells s = [] := List.eq_nil_of_length_eq_zero (by rw [Lib.strCells_length]; exact hm)
      rw [hm] at hf
      simp [Builtin.append_, run_underlying ht, run_underlying hu, sizeOf, typeInfo, hi, hs1, Builtin.lenOf, hm, hf]
    · exact ⟨_, _, run_append_nil_string (P := Tryd.prog) w _ _ ty _ i (.int .u8 0) ht hu hi hz s (by omega) (by omega) (by rw [hby]; omega), .inr rfl⟩
  · have hcs' : cur.size = cap := by simpa using hcs
    by_cases hroom : n + s.size ≤ cap
    · exact ⟨_, _, Lib.run_append_room_string (P := Tryd.prog) w _ _ ty _ i ht hu hi hs1 g n cap cur hg s hroom (by omega), .inl rfl⟩
    · have holds : ∀ j u, xs[j]? = some u → w.cell? ((⟨g, 0, none⟩ : Addr).add j) = some u := hown.cells (g := g) rfl
      exact ⟨_, _, Lib.run_append_grow_string (P := Tryd.prog) w _ _ ty _ i (.int .u8 0) ht hu hi hz ⟨g, 0, none⟩ n cap xs (by rw [hs1]; simpa using hxl) holds s (by omega) (by omega) (by rw [hby]; exact growslice_fits (by omega) (by omega)), .inr rfl⟩
theorem wpList_appS {ops : Array Oper} {rest : List Oper} {o : Oper} {a : Act} {w : World} {Q : Exit → Act → World → Prop} (hgd : o.guard = none) (sl x : Operand)
    (ho : o.op = .call { callee := .builtin .append, args := #[sl, x], argTypes := #[76, 9] })
    (v : Value) (n : Nat) (xs : List Value) (hs : a.eval sl = v) (hown : w.ownsRow 0 5 1 v n xs) (s : ByteArray) (hx : a.eval x = .string s) (hbytes : n + s.size ≤ 140737488355328)
    (h : ∀ v' w', w'.ownsRow 0 5 1 v' (n + s.size) (xs ++ Lib.strCells s) → w.grownBy w' v.ownBlock → (v'.ownBlock = v.ownBlock ∨ v'.ownBlock = some w.heap.size) → wpList Tryd.prog ops Q rest (a.put o.dst v') w') : wpList Tryd.prog ops Q (o :: rest) a w := by
  obtain ⟨i, hi, hz, hs1, hby⟩ := info_parts info_u8
  refine wpList_plain hgd fun K hK => ?_
  obtain ⟨v1, w1, hr1, hwh⟩ := app_where8 w o.type v n xs hown s hbytes
  obtain ⟨v', w', hr, h2, h3, _⟩ := Lib.run_append_own_string (P := Tryd.prog) w 0 _ _ o.type _ i Tryd.underlying76 Tryd.underlying9 hi hz hs1 hby v n xs hown s (by simp only [maxLen]; omega) hbytes (Nat.zero_le _)
  rw [hr1] at hr
  injection hr with e1 e2
  subst e1 e2
  unfold Oper.wp execOp
  simp only [ho, resolve, invoke, builtin, Sem.run_bind, Sem.run_pure, Result.andThen_ok, List.map_toArray, List.map_cons, List.map_nil, hs, hx, hr1]
  exact hK _ _ (h v1 w1 h2 h3 hwh)
set_option maxRecDepth 100000 in
set_option maxHeartbeats 1000000 in
theorem WriteString_c (b : Nat) (l : List UInt8) (v : Value) (s : ByteArray) (w : World) (h : BX b l v w) (hlen : l.length + s.size ≤ 140737488355328) :
    Calls Tryd.prog 48 #[.pointer (some ⟨b, 0, none⟩), .string s] w fun e w' => e = .returned (.tuple #[.int .i64 s.size, .nilIface]) ∧ ∃ v', Aft b v w (l ++ s.data.toList) v' w' := by
  have CC := Lib.hid (copyCheck_c b l v w h)
  clear h
  go_enter Tryd.func48, Tryd.ntmps48
  go_wp2_with fail
  refine CC.out.mono ?_; rintro e w1 ⟨rfl, h1, hb1⟩
  have H1 := Lib.hid h1
  obtain ⟨p1, hp1, hbk, hown, hne⟩ := h1.bx
  have c1 : w1.cell? ⟨b, 1, none⟩ = some v := by rw [Lib.cell_of_heap hbk]; rfl
  have HB := Lib.hid hbk
  have HO := Lib.hid (And.intro hown hne)
  clear h1 hb1 hbk hown hne CC
  go_wp2_with (at_builtin; refine wpList_appS rfl (.tmp 12) (.tmp 13) rfl v l.length (Lib.byteCells l) rfl HO.out.1 s rfl hlen ?_)
  intro v' w2 hown' hgrow hwh
  have hlt : b < w1.heap.size := H1.out.bx.lt
  have hb2 : w2.heap[b]? = some (.cells #[p1, v] 78 (0, 0)) := (hgrow.block b hlt (fun e => HO.out.2 e.symm)).trans HB.out
  have f1 : w2.frozen? ⟨b, 1, none⟩ = false := by simp [World.frozen?, hb2]
  have d1 : w2.cell? ⟨b, 1, none⟩ = some v := by rw [Lib.cell_of_heap hb2]; rfl
  have hne' : v'.ownBlock ≠ some b := fun q => by
    rcases hwh with e | e
    · exact HO.out.2 (e.symm.trans q)
    · rw [e] at q; injection q with q; omega
  have hst : (w2.setCell ⟨b, 1, none⟩ v').heap[b]? = some (.cells #[p1, v'] 78 (0, 0)) := by
    simp [World.setCell, Array.getElem?_modify, hb2]
  have hA : Hid (Aft b v w1 (l ++ s.data.toList) v' (w2.setCell ⟨b, 1, none⟩ v')) := Lib.hid (by
    refine ⟨⟨p1, hp1, hst, ?_, hne'⟩, ⟨hgrow.os, hgrow.tape, hgrow.output, by simp [World.setCell]; exact hgrow.size, fun k hk hb hg => ?_⟩, ?_⟩
    · have e1 : (l ++ s.data.toList).length = l.length + s.size := by rw [List.length_append, Lib.size_eq]
      have e2 : Lib.byteCells (l ++ s.data.toList) = Lib.byteCells l ++ Lib.strCells s := by rw [Lib.strCells_eq]; simp [Lib.byteCells]
      rw [e1, e2]
      exact hown'.kept (row := some b) ⟨rfl, rfl, rfl, by simp [World.setCell], fun k _ hk => Below.heap_setCell _ _ _ _ (fun e => hk (by simp [e]))⟩ (Or.inr hne')
    · exact (Below.heap_setCell _ _ _ _ hb).trans (hgrow.block k hk (fun e => hg e.symm))
    · rcases hwh with e | e
      · exact .inl e
      · exact .inr ⟨_, e, Nat.le_refl _⟩)
  obtain ⟨ao, n', cap, rfl⟩ : ∃ ao n' cap, v' = .slice ao n' cap := by
    rcases hown'.2 with ⟨hv, _⟩ | ⟨g, cap, cur, hv, _⟩
    · exact ⟨_, _, _, hv⟩
    · exact ⟨_, _, _, hv⟩
  clear hown' hgrow hwh hne' hst hb2
  go_wp2_with fail
  go_returns
  exact ⟨rfl, _, H1.out.trans hA.out⟩
/-- What has been written, as a string. -/
theorem String_c (b n : Nat) (l : List UInt8) (v : Value) (w0 w : World) (h : BX b l v w) (hx : Ext w0 w) (hp : Past w0.heap.size b v) :
    Calls Tryd.prog 51 #[.pointer (some ⟨b, 0, none⟩)] w fun e w' => e = .returned (.string ⟨l.toArray⟩) ∧ Ext w0 w' ∧ n = n := by
  have hlt := h.lt
  refine (Tryd.Builder_String_any w0.heap.size b l w (h.lib hp) (by have := hp.1; omega)).mono ?_
  rintro e w' ⟨rfl, hb⟩
  exact ⟨rfl, Below.trans hx hb, rfl⟩
end Go.Proofs.YtcheigpejbmaoaaDoor
