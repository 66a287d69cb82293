/- Texts of statements: the document. Printed by gen/rt2.py. -/
import Derived.Test.YtcheigpejbmaoaaDoorGR
namespace Go.Proofs.YtcheigpejbmaoaaDoor
open Go.RowKit
set_option maxRecDepth 100000 in
set_option maxHeartbeats 8000000 in
theorem RStmtText_1t (x : S) (hk : x.kind = 1) (hok : okS x = true) (hwt : wtS x ≤ 600) (hty : x.typed = true) (w : World) (ht : Tab w) (hx : InS w x) : Calls Tryd.prog 54 #[x.v] w fun r w' => r = .returned (.string ⟨(txS x).toArray⟩) ∧ Ext w w' := by
  have HTB := Lib.hid ht
  have HT := txS_eq x
  have HE := Lib.hid hx.e
  have hte0 := len_txB hx.e
  have hwe := wtS_e x
  rw [hk, if_pos rfl, hty] at HT
  rw [okS_eq, if_pos hk, hty] at hok
  simp only [Bool.and_eq_true, decide_eq_true_eq, if_true] at hok
  obtain ⟨okt, okn, oke, -, -, -⟩ := hok
  have hnm := nameOk_le okn
  have XC := fun w' h => RText_c x.e oke (by omega) w' h
  obtain ⟨te, hte⟩ : ∃ q : ByteArray, q = ⟨(txB x.e).toArray⟩ := ⟨_, rfl⟩
  have ste : te.size ≤ 24000 := by rw [hte, mkS]; omega
  have Ete : txB x.e = te.data.toList := by rw [hte]
  simp only [← hte] at XC
  unfold E.v at XC
  have TC := fun w' h => RTypeText_c x.t.k x.t.b x.t.n w' h okt
  obtain ⟨Y, hY⟩ : ∃ q : ByteArray, q = ⟨(tyTx x.t.k x.t.b x.t.n).toArray⟩ := ⟨_, rfl⟩
  have hYs : Y.size ≤ 47 := by rw [hY, mkS]; exact tyTx_le okt
  have HY : tyTx x.t.k x.t.b x.t.n = Y.data.toList := by rw [hY]
  simp only [← hY] at TC
  obtain ⟨TT, hTT⟩ : ∃ q : ByteArray, q = ⟨(txS x).toArray⟩ := ⟨_, rfl⟩
  have hTT2 : TT = (⟨#[108, 101, 116, 32]⟩ : ByteArray) ++ x.name ++ ⟨#[58, 32]⟩ ++ Y ++ ⟨#[32, 61, 32]⟩ ++ te ++ ⟨#[59]⟩ := by
    rw [hTT]
    refine baEq ?_
    rw [mkL, HT, if_pos rfl, HY, Ete]
    simp only [baApp, mkL]
    simp
  rw [← hTT]
  clear hTT HT
  have u0 : ¬ 9223372036854775807 < 4 + x.name.size := by omega
  have u1 : ¬ 9223372036854775807 < 4 + x.name.size + 2 := by omega
  have u2 : ¬ 9223372036854775807 < 4 + x.name.size + 2 + Y.size := by omega
  have u3 : ¬ 9223372036854775807 < 4 + x.name.size + 2 + Y.size + 3 := by omega
  have u4 : ¬ 9223372036854775807 < 4 + x.name.size + 2 + Y.size + 3 + te.size := by omega
  have u5 : ¬ 9223372036854775807 < 4 + x.name.size + 2 + Y.size + 3 + te.size + 1 := by omega
  unfold S.v
  rw [hk, hty]
  clear hte Ete hY HY hYs hx ht okn oke okt hnm hk hty hwt hte0 hwe ste
  obtain ⟨xq0, hxq0⟩ : ∃ q, q = x.kind := ⟨_, rfl⟩
  obtain ⟨xq1, hxq1⟩ : ∃ q, q = x.name := ⟨_, rfl⟩
  obtain ⟨xq2, hxq2⟩ : ∃ q, q = x.typed := ⟨_, rfl⟩
  obtain ⟨xq3, hxq3⟩ : ∃ q, q = x.t.k := ⟨_, rfl⟩
  obtain ⟨xq4, hxq4⟩ : ∃ q, q = x.t.b := ⟨_, rfl⟩
  obtain ⟨xq5, hxq5⟩ : ∃ q, q = x.t.n := ⟨_, rfl⟩
  obtain ⟨xq6, hxq6⟩ : ∃ q, q = x.e.op := ⟨_, rfl⟩
  obtain ⟨xq7, hxq7⟩ : ∃ q, q = x.e.val := ⟨_, rfl⟩
  obtain ⟨xq8, hxq8⟩ : ∃ q, q = x.e.name := ⟨_, rfl⟩
  obtain ⟨xq9, hxq9⟩ : ∃ q, q = x.e.a := ⟨_, rfl⟩
  obtain ⟨xq10, hxq10⟩ : ∃ q, q = x.e.args.length := ⟨_, rfl⟩
  obtain ⟨xq11, hxq11⟩ : ∃ q, q = x.e.cap := ⟨_, rfl⟩
  obtain ⟨xq12, hxq12⟩ : ∃ q, q = x.lo := ⟨_, rfl⟩
  obtain ⟨xq13, hxq13⟩ : ∃ q, q = x.hi := ⟨_, rfl⟩
  obtain ⟨xq14, hxq14⟩ : ∃ q, q = x.a := ⟨_, rfl⟩
  obtain ⟨xq15, hxq15⟩ : ∃ q, q = x.body.length := ⟨_, rfl⟩
  obtain ⟨xq16, hxq16⟩ : ∃ q, q = x.cap := ⟨_, rfl⟩
  simp only [← hxq0, ← hxq1, ← hxq2, ← hxq3, ← hxq4, ← hxq5, ← hxq6, ← hxq7, ← hxq8, ← hxq9, ← hxq10, ← hxq11, ← hxq12, ← hxq13, ← hxq14, ← hxq15, ← hxq16] at XC hTT2 u0 u1 u2 u3 u4 u5 ⊢ TC
  clear hxq0 hxq1 hxq2 hxq3 hxq4 hxq5 hxq6 hxq7 hxq8 hxq9 hxq10 hxq11 hxq12 hxq13 hxq14 hxq15 hxq16
  have HTT := Lib.hid hTT2
  replace XC := Lib.hid XC
  clear hTT2
  replace TC := Lib.hid TC
  go_enter Tryd.func54, Tryd.ntmps54
  go_wp2_with fail
  obtain ⟨wb, hwb⟩ : ∃ q, q = w.alloc (.cells #[.int .i64 1, .string xq1, .bool true, .int .i64 xq3, .int .i64 xq4, .int .i64 xq5, .int .i64 xq6, .int .u64 (xq7 : Int), .string xq8, .slice xq9 xq10 xq11, .int .i64 xq12, .int .i64 xq13, .slice xq14 xq15 xq16] 61) := ⟨_, rfl⟩
  have c1 : wb.cell? ⟨w.heap.size, 1, none⟩ = some (.string xq1) := by rw [hwb]; simp
  have c3 : wb.cell? ⟨w.heap.size, 3, none⟩ = some (.int .i64 xq3) := by rw [hwb]; simp
  have c4 : wb.cell? ⟨w.heap.size, 4, none⟩ = some (.int .i64 xq4) := by rw [hwb]; simp
  have c5 : wb.cell? ⟨w.heap.size, 5, none⟩ = some (.int .i64 xq5) := by rw [hwb]; simp
  have c6 : wb.cell? ⟨w.heap.size, 6, none⟩ = some (.int .i64 xq6) := by rw [hwb]; simp
  have c7 : wb.cell? ⟨w.heap.size, 7, none⟩ = some (.int .u64 (xq7 : Int)) := by rw [hwb]; simp
  have c8 : wb.cell? ⟨w.heap.size, 8, none⟩ = some (.string xq8) := by rw [hwb]; simp
  have c9 : wb.cell? ⟨w.heap.size, 9, none⟩ = some (.slice xq9 xq10 xq11) := by rw [hwb]; simp
  have X : Ext w wb := by rw [hwb]; exact (Ext.refl _).alloc _
  rw [← hwb]
  clear hwb
  refine region_factsL [[], [(0, 39)], [(1, 40)], [(2, 41)], [], [(4, 43)], [(5, 44)], [(3, 42), (6, 45)], [(7, 46)], [], [(9, 48)], [(10, 49)], [(8, 47), (11, 50)], [(12, 51)], [(13, 52)]] [some 39, some 40, some 41, some 42, some 43, some 44, some 45, some 46, some 47, some 48, some 49, some 50, some 51, some 52, some 2] [false, true, false, false, false, false, false, false, false, false, false, false, false, false, false, false, false, false, false, false, false, false, false, false, false, false, false, false, false, false, false, false, false, false, false, false, false, false, false, false, false, false, false, false, false, false, false, false, false, false, false, false, false, false, false, false, false, false, false, false, false, false] (by kernel_rfl) (by kernel_rfl) (by kernel_rfl) ?_
  dsimp only [maskL]
  with_reducible apply FromM.eq
  · intro w' hx; (try dsimp only [List.nil_append, List.cons_append, DepsL, DepsL1, setO, setN, favs, opsOf]); go_wp2; exact OpPostE.some _ rfl rfl (Ext.refl _) rfl
  with_reducible apply FromM.eq
  · intro w' hx; have c1x := hx.cell c1; have c3x := hx.cell c3; have c4x := hx.cell c4; have c5x := hx.cell c5; have c6x := hx.cell c6; have c7x := hx.cell c7; have c8x := hx.cell c8; have c9x := hx.cell c9; (try dsimp only [List.nil_append, List.cons_append, DepsL, DepsL1, setO, setN, favs, opsOf]); go_wp2; exact OpPostE.some _ rfl rfl (Ext.refl _) rfl
  with_reducible apply FromM.eq
  · intro w' hx; (try dsimp only [List.nil_append, List.cons_append, DepsL, DepsL1, setO, setN, favs, opsOf]); go_wp2; exact OpPostE.some _ rfl rfl (Ext.refl _) rfl
  with_reducible apply FromM.eq
  · intro w' hx; (try dsimp only [List.nil_append, List.cons_append, DepsL, DepsL1, setO, setN, favs, opsOf]); go_wp2; exact OpPostE.some _ rfl rfl (Ext.refl _) rfl
  with_reducible apply FromM.eq
  · intro w' hx; (try dsimp only [List.nil_append, List.cons_append, DepsL, DepsL1, setO, setN, favs, opsOf]); go_wp2; exact OpPostE.some _ rfl rfl (Ext.refl _) rfl
  with_reducible apply FromM.eq
  · intro w' hx; have c1x := hx.cell c1; have c3x := hx.cell c3; have c4x := hx.cell c4; have c5x := hx.cell c5; have c6x := hx.cell c6; have c7x := hx.cell c7; have c8x := hx.cell c8; have c9x := hx.cell c9; (try dsimp only [List.nil_append, List.cons_append, DepsL, DepsL1, setO, setN, favs, opsOf]); go_wp2; exact OpPostE.some _ rfl rfl (Ext.refl _) rfl
  with_reducible apply FromM.eq
  · intro w' hx; (try dsimp only [List.nil_append, List.cons_append, DepsL, DepsL1, setO, setN, favs, opsOf]); refine op_call 16 [.tmp 44] _ _ _ rfl rfl rfl rfl rfl rfl (fun _ _ => Tryd.call16 _ _) (TC.out _ (HTB.out.ext (X.trans hx))) (fun e w2 h_ => ?_); obtain ⟨rfl, hb2⟩ := h_; exact ⟨_, rfl, hb2, rfl⟩
  with_reducible apply FromM.eq
  · intro w' hx; (try dsimp only [List.nil_append, List.cons_append, DepsL, DepsL1, setO, setN, favs, opsOf]); go_wp2; exact OpPostE.some _ rfl rfl (Ext.refl _) rfl
  with_reducible apply FromM.eq
  · intro w' hx; (try dsimp only [List.nil_append, List.cons_append, DepsL, DepsL1, setO, setN, favs, opsOf]); go_wp2; exact OpPostE.some _ rfl rfl (Ext.refl _) rfl
  with_reducible apply FromM.eq
  · intro w' hx; (try dsimp only [List.nil_append, List.cons_append, DepsL, DepsL1, setO, setN, favs, opsOf]); go_wp2; exact OpPostE.some _ rfl rfl (Ext.refl _) rfl
  with_reducible apply FromM.eq
  · intro w' hx; have c1x := hx.cell c1; have c3x := hx.cell c3; have c4x := hx.cell c4; have c5x := hx.cell c5; have c6x := hx.cell c6; have c7x := hx.cell c7; have c8x := hx.cell c8; have c9x := hx.cell c9; (try dsimp only [List.nil_append, List.cons_append, DepsL, DepsL1, setO, setN, favs, opsOf]); go_wp2; exact OpPostE.some _ rfl rfl (Ext.refl _) rfl
  with_reducible apply FromM.eq
  · intro w' hx; (try dsimp only [List.nil_append, List.cons_append, DepsL, DepsL1, setO, setN, favs, opsOf]); refine op_call 53 [.tmp 49] _ _ _ rfl rfl rfl rfl rfl rfl (fun _ _ => Tryd.call53 _ _) (XC.out _ (HE.out.to (X.trans hx))) (fun e w2 h_ => ?_); obtain ⟨rfl, hb2⟩ := h_; exact ⟨_, rfl, hb2, rfl⟩
  with_reducible apply FromM.eq
  · intro w' hx; (try dsimp only [List.nil_append, List.cons_append, DepsL, DepsL1, setO, setN, favs, opsOf]); go_wp2; exact OpPostE.some _ rfl rfl (Ext.refl _) rfl
  with_reducible apply FromM.eq
  · intro w' hx; (try dsimp only [List.nil_append, List.cons_append, DepsL, DepsL1, setO, setN, favs, opsOf]); go_wp2; exact OpPostE.some _ rfl rfl (Ext.refl _) rfl
  with_reducible apply FromM.eq
  · intro w' hx; (try dsimp only [List.nil_append, List.cons_append, DepsL, DepsL1, setO, setN, favs, opsOf]); go_wp2; exact OpPostE.some _ rfl rfl (Ext.refl _) rfl
  with_reducible refine FromM.fin ?_
  intro w' hx
  (try dsimp only [List.nil_append, List.cons_append, EndL, DepsL1, setO, setN])
  replace X := X.trans hx
  clear hx c1 c3 c4 c5 c6 c7 c8 c9
  go_wp2_with fail
  go_ret
  exact ⟨by rw [HTT.out]; rfl, X⟩
set_option maxRecDepth 100000 in
set_option maxHeartbeats 8000000 in
theorem RStmtText_1u (x : S) (hk : x.kind = 1) (hok : okS x = true) (hwt : wtS x ≤ 600) (hty : x.typed = false) (w : World) (ht : Tab w) (hx : InS w x) : Calls Tryd.prog 54 #[x.v] w fun r w' => r = .returned (.string ⟨(txS x).toArray⟩) ∧ Ext w w' := by
  have HTB := Lib.hid ht
  have HT := txS_eq x
  have HE := Lib.hid hx.e
  have hte0 := len_txB hx.e
  have hwe := wtS_e x
  rw [hk, if_pos rfl, hty] at HT
  rw [okS_eq, if_pos hk, hty] at hok
  simp only [Bool.and_eq_true, decide_eq_true_eq] at hok
  obtain ⟨okt, okn, oke, -, -, -⟩ := hok
  have hnm := nameOk_le okn
  have XC := fun w' h => RText_c x.e oke (by omega) w' h
  obtain ⟨te, hte⟩ : ∃ q : ByteArray, q = ⟨(txB x.e).toArray⟩ := ⟨_, rfl⟩
  have ste : te.size ≤ 24000 := by rw [hte, mkS]; omega
  have Ete : txB x.e = te.data.toList := by rw [hte]
  simp only [← hte] at XC
  unfold E.v at XC
  obtain ⟨TT, hTT⟩ : ∃ q : ByteArray, q = ⟨(txS x).toArray⟩ := ⟨_, rfl⟩
  have hTT2 : TT = (⟨#[108, 101, 116, 32]⟩ : ByteArray) ++ x.name ++ ⟨#[32, 61, 32]⟩ ++ te ++ ⟨#[59]⟩ := by
    rw [hTT]
    refine baEq ?_
    rw [mkL, HT, if_neg (by decide), Ete]
    simp only [baApp, mkL]
    simp
  rw [← hTT]
  clear hTT HT
  have u0 : ¬ 9223372036854775807 < 4 + x.name.size := by omega
  have u1 : ¬ 9223372036854775807 < 4 + x.name.size + 3 := by omega
  have u2 : ¬ 9223372036854775807 < 4 + x.name.size + 3 + te.size := by omega
  have u3 : ¬ 9223372036854775807 < 4 + x.name.size + 3 + te.size + 1 := by omega
  unfold S.v
  rw [hk, hty]
  clear hte Ete hx ht okn oke okt hnm hk hty hwt hte0 hwe ste
  obtain ⟨xq0, hxq0⟩ : ∃ q, q = x.kind := ⟨_, rfl⟩
  obtain ⟨xq1, hxq1⟩ : ∃ q, q = x.name := ⟨_, rfl⟩
  obtain ⟨xq2, hxq2⟩ : ∃ q, q = x.typed := ⟨_, rfl⟩
  obtain ⟨xq3, hxq3⟩ : ∃ q, q = x.t.k := ⟨_, rfl⟩
  obtain ⟨xq4, hxq4⟩ : ∃ q, q = x.t.b := ⟨_, rfl⟩
  obtain ⟨xq5, hxq5⟩ : ∃ q, q = x.t.n := ⟨_, rfl⟩
  obtain ⟨xq6, hxq6⟩ : ∃ q, q = x.e.op := ⟨_, rfl⟩
  obtain ⟨xq7, hxq7⟩ : ∃ q, q = x.e.val := ⟨_, rfl⟩
  obtain ⟨xq8, hxq8⟩ : ∃ q, q = x.e.name := ⟨_, rfl⟩
  obtain ⟨xq9, hxq9⟩ : ∃ q, q = x.e.a := ⟨_, rfl⟩
  obtain ⟨xq10, hxq10⟩ : ∃ q, q = x.e.args.length := ⟨_, rfl⟩
  obtain ⟨xq11, hxq11⟩ : ∃ q, q = x.e.cap := ⟨_, rfl⟩
  obtain ⟨xq12, hxq12⟩ : ∃ q, q = x.lo := ⟨_, rfl⟩
  obtain ⟨xq13, hxq13⟩ : ∃ q, q = x.hi := ⟨_, rfl⟩
  obtain ⟨xq14, hxq14⟩ : ∃ q, q = x.a := ⟨_, rfl⟩
  obtain ⟨xq15, hxq15⟩ : ∃ q, q = x.body.length := ⟨_, rfl⟩
  obtain ⟨xq16, hxq16⟩ : ∃ q, q = x.cap := ⟨_, rfl⟩
  simp only [← hxq0, ← hxq1, ← hxq2, ← hxq3, ← hxq4, ← hxq5, ← hxq6, ← hxq7, ← hxq8, ← hxq9, ← hxq10, ← hxq11, ← hxq12, ← hxq13, ← hxq14, ← hxq15, ← hxq16] at XC hTT2 u0 u1 u2 u3 ⊢
  clear hxq0 hxq1 hxq2 hxq3 hxq4 hxq5 hxq6 hxq7 hxq8 hxq9 hxq10 hxq11 hxq12 hxq13 hxq14 hxq15 hxq16
  have HTT := Lib.hid hTT2
  replace XC := Lib.hid XC
  clear hTT2
  go_enter Tryd.func54, Tryd.ntmps54
  go_wp2_with fail
  obtain ⟨wb, hwb⟩ : ∃ q, q = w.alloc (.cells #[.int .i64 1, .string xq1, .bool false, .int .i64 xq3, .int .i64 xq4, .int .i64 xq5, .int .i64 xq6, .int .u64 (xq7 : Int), .string xq8, .slice xq9 xq10 xq11, .int .i64 xq12, .int .i64 xq13, .slice xq14 xq15 xq16] 61) := ⟨_, rfl⟩
  have c1 : wb.cell? ⟨w.heap.size, 1, none⟩ = some (.string xq1) := by rw [hwb]; simp
  have c6 : wb.cell? ⟨w.heap.size, 6, none⟩ = some (.int .i64 xq6) := by rw [hwb]; simp
  have c7 : wb.cell? ⟨w.heap.size, 7, none⟩ = some (.int .u64 (xq7 : Int)) := by rw [hwb]; simp
  have c8 : wb.cell? ⟨w.heap.size, 8, none⟩ = some (.string xq8) := by rw [hwb]; simp
  have c9 : wb.cell? ⟨w.heap.size, 9, none⟩ = some (.slice xq9 xq10 xq11) := by rw [hwb]; simp
  have X : Ext w wb := by rw [hwb]; exact (Ext.refl _).alloc _
  rw [← hwb]
  clear hwb
  refine region_factsL [[], [(0, 53)], [(1, 54)], [(2, 55)], [], [(4, 57)], [(5, 58)], [(3, 56), (6, 59)], [(7, 60)], [(8, 61)]] [some 53, some 54, some 55, some 56, some 57, some 58, some 59, some 60, some 61, some 2] [false, true, false, false, false, false, false, false, false, false, false, false, false, false, false, false, false, false, false, false, false, false, false, false, false, false, false, false, false, false, false, false, false, false, false, false, false, false, false, false, false, false, false, false, false, false, false, false, false, false, false, false, false, false, false, false, false, false, false, false, false, false] (by kernel_rfl) (by kernel_rfl) (by kernel_rfl) ?_
  dsimp only [maskL]
  with_reducible apply FromM.eq
  · intro w' hx; (try dsimp only [List.nil_append, List.cons_append, DepsL, DepsL1, setO, setN, favs, opsOf]); go_wp2; exact OpPostE.some _ rfl rfl (Ext.refl _) rfl
  with_reducible apply FromM.eq
  · intro w' hx; have c1x := hx.cell c1; have c6x := hx.cell c6; have c7x := hx.cell c7; have c8x := hx.cell c8; have c9x := hx.cell c9; (try dsimp only [List.nil_append, List.cons_append, DepsL, DepsL1, setO, setN, favs, opsOf]); go_wp2; exact OpPostE.some _ rfl rfl (Ext.refl _) rfl
  with_reducible apply FromM.eq
  · intro w' hx; (try dsimp only [List.nil_append, List.cons_append, DepsL, DepsL1, setO, setN, favs, opsOf]); go_wp2; exact OpPostE.some _ rfl rfl (Ext.refl _) rfl
  with_reducible apply FromM.eq
  · intro w' hx; (try dsimp only [List.nil_append, List.cons_append, DepsL, DepsL1, setO, setN, favs, opsOf]); go_wp2; exact OpPostE.some _ rfl rfl (Ext.refl _) rfl
  with_reducible apply FromM.eq
  · intro w' hx; (try dsimp only [List.nil_append, List.cons_append, DepsL, DepsL1, setO, setN, favs, opsOf]); go_wp2; exact OpPostE.some _ rfl rfl (Ext.refl _) rfl
  with_reducible apply FromM.eq
  · intro w' hx; have c1x := hx.cell c1; have c6x := hx.cell c6; have c7x := hx.cell c7; have c8x := hx.cell c8; have c9x := hx.cell c9; (try dsimp only [List.nil_append, List.cons_append, DepsL, DepsL1, setO, setN, favs, opsOf]); go_wp2; exact OpPostE.some _ rfl rfl (Ext.refl _) rfl
  with_reducible apply FromM.eq
  · intro w' hx; (try dsimp only [List.nil_append, List.cons_append, DepsL, DepsL1, setO, setN, favs, opsOf]); refine op_call 53 [.tmp 58] _ _ _ rfl rfl rfl rfl rfl rfl (fun _ _ => Tryd.call53 _ _) (XC.out _ (HE.out.to (X.trans hx))) (fun e w2 h_ => ?_); obtain ⟨rfl, hb2⟩ := h_; exact ⟨_, rfl, hb2, rfl⟩
  with_reducible apply FromM.eq
  · intro w' hx; (try dsimp only [List.nil_append, List.cons_append, DepsL, DepsL1, setO, setN, favs, opsOf]); go_wp2; exact OpPostE.some _ rfl rfl (Ext.refl _) rfl
  with_reducible apply FromM.eq
  · intro w' hx; (try dsimp only [List.nil_append, List.cons_append, DepsL, DepsL1, setO, setN, favs, opsOf]); go_wp2; exact OpPostE.some _ rfl rfl (Ext.refl _) rfl
  with_reducible apply FromM.eq
  · intro w' hx; (try dsimp only [List.nil_append, List.cons_append, DepsL, DepsL1, setO, setN, favs, opsOf]); go_wp2; exact OpPostE.some _ rfl rfl (Ext.refl _) rfl
  with_reducible refine FromM.fin ?_
  intro w' hx
  (try dsimp only [List.nil_append, List.cons_append, EndL, DepsL1, setO, setN])
  replace X := X.trans hx
  clear hx c1 c6 c7 c8 c9
  go_wp2_with fail
  go_ret
  exact ⟨by rw [HTT.out]; rfl, X⟩
set_option maxRecDepth 100000 in
set_option maxHeartbeats 8000000 in
theorem RStmtText_2 (x : S) (hk : x.kind = 2) (hok : okS x = true) (hwt : wtS x ≤ 600) (w : World) (ht : Tab w) (hx : InS w x) : Calls Tryd.prog 54 #[x.v] w fun r w' => r = .returned (.string ⟨(txS x).toArray⟩) ∧ Ext w w' := by
  have HTB := Lib.hid ht
  have HT := txS_eq x
  have HE := Lib.hid hx.e
  have hte0 := len_txB hx.e
  have hwe := wtS_e x
  rw [hk, if_neg (by decide), if_pos rfl] at HT
  rw [okS_eq, hk, if_neg (by decide), if_pos rfl] at hok
  simp only [Bool.and_eq_true, decide_eq_true_eq] at hok
  obtain ⟨-, -, oke, -, -, -⟩ := hok
  have XC := fun w' h => RText_c x.e oke (by omega) w' h
  obtain ⟨te, hte⟩ : ∃ q : ByteArray, q = ⟨(txB x.e).toArray⟩ := ⟨_, rfl⟩
  have ste : te.size ≤ 24000 := by rw [hte, mkS]; omega
  have Ete : txB x.e = te.data.toList := by rw [hte]
  simp only [← hte] at XC
  unfold E.v at XC
  obtain ⟨TT, hTT⟩ : ∃ q : ByteArray, q = ⟨(txS x).toArray⟩ := ⟨_, rfl⟩
  have HTT : Hid (TT = (⟨#[97, 115, 115, 101, 114, 116, 32]⟩ : ByteArray) ++ te ++ ⟨#[59]⟩) := Lib.hid (by
    rw [hTT]
    refine baEq ?_
    rw [mkL, HT, Ete]
    simp only [baApp, mkL]
    simp)
  rw [← hTT]
  clear hTT HT
  have u0 : ¬ 9223372036854775807 < 7 + te.size := by omega
  have u1 : ¬ 9223372036854775807 < 7 + te.size + 1 := by omega
  unfold S.v
  rw [hk]
  clear hte Ete hx ht oke hk hwt hte0 hwe ste
  obtain ⟨xq0, hxq0⟩ : ∃ q, q = x.kind := ⟨_, rfl⟩
  obtain ⟨xq1, hxq1⟩ : ∃ q, q = x.name := ⟨_, rfl⟩
  obtain ⟨xq2, hxq2⟩ : ∃ q, q = x.typed := ⟨_, rfl⟩
  obtain ⟨xq3, hxq3⟩ : ∃ q, q = x.t.k := ⟨_, rfl⟩
  obtain ⟨xq4, hxq4⟩ : ∃ q, q = x.t.b := ⟨_, rfl⟩
  obtain ⟨xq5, hxq5⟩ : ∃ q, q = x.t.n := ⟨_, rfl⟩
  obtain ⟨xq6, hxq6⟩ : ∃ q, q = x.e.op := ⟨_, rfl⟩
  obtain ⟨xq7, hxq7⟩ : ∃ q, q = x.e.val := ⟨_, rfl⟩
  obtain ⟨xq8, hxq8⟩ : ∃ q, q = x.e.name := ⟨_, rfl⟩
  obtain ⟨xq9, hxq9⟩ : ∃ q, q = x.e.a := ⟨_, rfl⟩
  obtain ⟨xq10, hxq10⟩ : ∃ q, q = x.e.args.length := ⟨_, rfl⟩
  obtain ⟨xq11, hxq11⟩ : ∃ q, q = x.e.cap := ⟨_, rfl⟩
  obtain ⟨xq12, hxq12⟩ : ∃ q, q = x.lo := ⟨_, rfl⟩
  obtain ⟨xq13, hxq13⟩ : ∃ q, q = x.hi := ⟨_, rfl⟩
  obtain ⟨xq14, hxq14⟩ : ∃ q, q = x.a := ⟨_, rfl⟩
  obtain ⟨xq15, hxq15⟩ : ∃ q, q = x.body.length := ⟨_, rfl⟩
  obtain ⟨xq16, hxq16⟩ : ∃ q, q = x.cap := ⟨_, rfl⟩
  simp only [← hxq0, ← hxq1, ← hxq2, ← hxq3, ← hxq4, ← hxq5, ← hxq6, ← hxq7, ← hxq8, ← hxq9, ← hxq10, ← hxq11, ← hxq12, ← hxq13, ← hxq14, ← hxq15, ← hxq16] at XC ⊢
  clear hxq0 hxq1 hxq2 hxq3 hxq4 hxq5 hxq6 hxq7 hxq8 hxq9 hxq10 hxq11 hxq12 hxq13 hxq14 hxq15 hxq16
  replace XC := Lib.hid XC
  go_enter Tryd.func54, Tryd.ntmps54
  go_wp2_with fail
  refine (XC.out _ (HE.out.to ((Ext.refl _).alloc _))).mono ?_; rintro e1 w1 ⟨rfl, x1⟩
  have X := x1.box
  clear x1
  go_wp2_with fail
  go_ret
  exact ⟨by rw [HTT.out]; rfl, X⟩
set_option maxRecDepth 100000 in
set_option maxHeartbeats 8000000 in
theorem RStmtText_3 (x : S) (hk : x.kind = 3) (hok : okS x = true) (hwt : wtS x ≤ 600) (hB : ∀ w', Tab w' → InB w' x.a x.body → Calls Tryd.prog 52 #[.slice x.a x.body.length x.cap] w' fun r w2 => r = .returned (.string ⟨(txSs x.body).toArray⟩) ∧ Ext w' w2) (w : World) (ht : Tab w) (hx : InS w x) : Calls Tryd.prog 54 #[x.v] w fun r w' => r = .returned (.string ⟨(txS x).toArray⟩) ∧ Ext w w' := by
  have HTB := Lib.hid ht
  have HT := txS_eq x
  have HE := Lib.hid hx.e
  have hte0 := len_txB hx.e
  have hwe := wtS_e x
  rw [hk, if_neg (by decide), if_neg (by decide), if_pos rfl] at HT
  rw [okS_eq, hk, if_neg (by decide), if_neg (by decide), if_pos rfl] at hok
  simp only [Bool.and_eq_true, lpN, decide_eq_true_eq] at hok
  obtain ⟨okn, -, -, ⟨l0, l1⟩, ⟨g0, g1⟩, okb⟩ := hok
  have hnm := nameOk_le okn
  have hb1 := len_body 32 okb hx.l
  have hb2 := wtS_b x
  have SB := hB
  obtain ⟨tb, htb⟩ : ∃ q : ByteArray, q = ⟨(txSs x.body).toArray⟩ := ⟨_, rfl⟩
  have stb : tb.size ≤ 40000 := by rw [htb, mkS, txSs_lines]; omega
  have Etb : txSs x.body = tb.data.toList := by rw [htb]
  simp only [← htb] at SB
  have HL := hx.l
  obtain ⟨lo, hlo⟩ : ∃ m : Nat, x.lo = (m : Int) := ⟨x.lo.toNat, by omega⟩
  obtain ⟨hi, hhi⟩ : ∃ m : Nat, x.hi = (m : Int) := ⟨x.hi.toNat, by omega⟩
  have D1 := fun w' => Digits_c lo (by omega) w'
  have D2 := fun w' => Digits_c hi (by omega) w'
  obtain ⟨I1, hI1⟩ : ∃ q : ByteArray, q = ⟨(Lib.decDigits lo).toArray⟩ := ⟨_, rfl⟩
  obtain ⟨I2, hI2⟩ : ∃ q : ByteArray, q = ⟨(Lib.decDigits hi).toArray⟩ := ⟨_, rfl⟩
  have s1 : I1.size ≤ 20 := by rw [hI1, mkS]; exact digits_le _ (by omega)
  have s2 : I2.size ≤ 20 := by rw [hI2, mkS]; exact digits_le _ (by omega)
  have E1 : Lib.decDigits x.lo.toNat = I1.data.toList := by rw [hI1, hlo]; rfl
  have E2 : Lib.decDigits x.hi.toNat = I2.data.toList := by rw [hI2, hhi]; rfl
  simp only [← hI1] at D1
  simp only [← hI2] at D2
  have m1 : lo ≤ 1000000 := by omega
  have m2 : hi ≤ 1000000 := by omega
  obtain ⟨TT, hTT⟩ : ∃ q : ByteArray, q = ⟨(txS x).toArray⟩ := ⟨_, rfl⟩
  have hTT2 : TT = (⟨#[102, 111, 114, 32]⟩ : ByteArray) ++ x.name ++ ⟨#[32, 105, 110, 32]⟩ ++ I1 ++ ⟨#[46, 46]⟩ ++ I2 ++ ⟨#[32, 123, 32]⟩ ++ tb ++ ⟨#[125]⟩ := by
    rw [hTT]
    refine baEq ?_
    rw [mkL, HT, E1, E2, Etb]
    simp only [baApp, mkL]
    simp
  rw [← hTT]
  clear hTT HT
  have u0 : ¬ 9223372036854775807 < 4 + x.name.size := by omega
  have u1 : ¬ 9223372036854775807 < 4 + x.name.size + 4 := by omega
  have u2 : ¬ 9223372036854775807 < 4 + x.name.size + 4 + I1.size := by omega
  have u3 : ¬ 9223372036854775807 < 4 + x.name.size + 4 + I1.size + 2 := by omega
  have u4 : ¬ 9223372036854775807 < 4 + x.name.size + 4 + I1.size + 2 + I2.size := by omega
  have u5 : ¬ 9223372036854775807 < 4 + x.name.size + 4 + I1.size + 2 + I2.size + 3 := by omega
  have u6 : ¬ 9223372036854775807 < 4 + x.name.size + 4 + I1.size + 2 + I2.size + 3 + tb.size := by omega
  have u7 : ¬ 9223372036854775807 < 4 + x.name.size + 4 + I1.size + 2 + I2.size + 3 + tb.size + 1 := by omega
  unfold S.v
  rw [hk, hlo, hhi]
  clear hx ht hB okn hnm hk hwt hte0 hwe htb stb Etb hI1 hI2 s1 s2 E1 E2 hb1 hb2 okb l0 l1 g0 g1 hlo hhi
  obtain ⟨xq0, hxq0⟩ : ∃ q, q = x.kind := ⟨_, rfl⟩
  obtain ⟨xq1, hxq1⟩ : ∃ q, q = x.name := ⟨_, rfl⟩
  obtain ⟨xq2, hxq2⟩ : ∃ q, q = x.typed := ⟨_, rfl⟩
  obtain ⟨xq3, hxq3⟩ : ∃ q, q = x.t.k := ⟨_, rfl⟩
  obtain ⟨xq4, hxq4⟩ : ∃ q, q = x.t.b := ⟨_, rfl⟩
  obtain ⟨xq5, hxq5⟩ : ∃ q, q = x.t.n := ⟨_, rfl⟩
  obtain ⟨xq6, hxq6⟩ : ∃ q, q = x.e.op := ⟨_, rfl⟩
  obtain ⟨xq7, hxq7⟩ : ∃ q, q = x.e.val := ⟨_, rfl⟩
  obtain ⟨xq8, hxq8⟩ : ∃ q, q = x.e.name := ⟨_, rfl⟩
  obtain ⟨xq9, hxq9⟩ : ∃ q, q = x.e.a := ⟨_, rfl⟩
  obtain ⟨xq10, hxq10⟩ : ∃ q, q = x.e.args.length := ⟨_, rfl⟩
  obtain ⟨xq11, hxq11⟩ : ∃ q, q = x.e.cap := ⟨_, rfl⟩
  obtain ⟨xq12, hxq12⟩ : ∃ q, q = x.lo := ⟨_, rfl⟩
  obtain ⟨xq13, hxq13⟩ : ∃ q, q = x.hi := ⟨_, rfl⟩
  obtain ⟨xq14, hxq14⟩ : ∃ q, q = x.a := ⟨_, rfl⟩
  obtain ⟨xq15, hxq15⟩ : ∃ q, q = x.body.length := ⟨_, rfl⟩
  obtain ⟨xq16, hxq16⟩ : ∃ q, q = x.cap := ⟨_, rfl⟩
  simp only [← hxq0, ← hxq1, ← hxq2, ← hxq3, ← hxq4, ← hxq5, ← hxq6, ← hxq7, ← hxq8, ← hxq9, ← hxq10, ← hxq11, ← hxq12, ← hxq13, ← hxq14, ← hxq15, ← hxq16] at SB HL hTT2 u0 u1 u2 u3 u4 u5 u6 u7 ⊢
  clear hxq0 hxq1 hxq2 hxq3 hxq4 hxq5 hxq6 hxq7 hxq8 hxq9 hxq10 hxq11 hxq12 hxq13 hxq14 hxq15 hxq16
  have HTT := Lib.hid hTT2
  clear hTT2
  replace SB := Lib.hid SB
  replace HL := Lib.hid HL
  replace D1 := Lib.hid D1
  replace D2 := Lib.hid D2
  go_enter Tryd.func54, Tryd.ntmps54
  go_wp2_with fail
  obtain ⟨wb, hwb⟩ : ∃ q, q = w.alloc (.cells #[.int .i64 3, .string xq1, .bool xq2, .int .i64 xq3, .int .i64 xq4, .int .i64 xq5, .int .i64 xq6, .int .u64 (xq7 : Int), .string xq8, .slice xq9 xq10 xq11, .int .i64 (lo : Int), .int .i64 (hi : Int), .slice xq14 xq15 xq16] 61) := ⟨_, rfl⟩
  have c1 : wb.cell? ⟨w.heap.size, 1, none⟩ = some (.string xq1) := by rw [hwb]; simp
  have c10 : wb.cell? ⟨w.heap.size, 10, none⟩ = some (.int .i64 (lo : Int)) := by rw [hwb]; simp
  have c11 : wb.cell? ⟨w.heap.size, 11, none⟩ = some (.int .i64 (hi : Int)) := by rw [hwb]; simp
  have c12 : wb.cell? ⟨w.heap.size, 12, none⟩ = some (.slice xq14 xq15 xq16) := by rw [hwb]; simp
  have X : Ext w wb := by rw [hwb]; exact (Ext.refl _).alloc _
  rw [← hwb]
  clear hwb
  refine region_factsL [[], [(0, 15)], [(1, 16)], [(2, 17)], [], [(4, 19)], [(5, 20)], [(6, 21)], [(3, 18), (7, 22)], [(8, 23)], [], [(10, 25)], [(11, 26)], [(12, 27)], [(9, 24), (13, 28)], [(14, 29)], [(15, 30)]] [some 15, some 16, some 17, some 18, some 19, some 20, some 21, some 22, some 23, some 24, some 25, some 26, some 27, some 28, some 29, some 30, some 3] [false, true, false, false, false, false, false, false, false, false, false, false, false, false, false, false, false, false, false, false, false, false, false, false, false, false, false, false, false, false, false, false, false, false, false, false, false, false, false, false, false, false, false, false, false, false, false, false, false, false, false, false, false, false, false, false, false, false, false, false, false, false] (by kernel_rfl) (by kernel_rfl) (by kernel_rfl) ?_
  dsimp only [maskL]
  with_reducible apply FromM.eq
  · intro w' hx; (try dsimp only [List.nil_append, List.cons_append, DepsL, DepsL1, setO, setN, favs, opsOf]); go_wp2; exact OpPostE.some _ rfl rfl (Ext.refl _) rfl
  with_reducible apply FromM.eq
  · intro w' hx; have c1x := hx.cell c1; have c10x := hx.cell c10; have c11x := hx.cell c11; (try dsimp only [List.nil_append, List.cons_append, DepsL, DepsL1, setO, setN, favs, opsOf]); go_wp2; exact OpPostE.some _ rfl rfl (Ext.refl _) rfl
  with_reducible apply FromM.eq
  · intro w' hx; (try dsimp only [List.nil_append, List.cons_append, DepsL, DepsL1, setO, setN, favs, opsOf]); go_wp2; exact OpPostE.some _ rfl rfl (Ext.refl _) rfl
  with_reducible apply FromM.eq
  · intro w' hx; (try dsimp only [List.nil_append, List.cons_append, DepsL, DepsL1, setO, setN, favs, opsOf]); go_wp2; exact OpPostE.some _ rfl rfl (Ext.refl _) rfl
  with_reducible apply FromM.eq
  · intro w' hx; (try dsimp only [List.nil_append, List.cons_append, DepsL, DepsL1, setO, setN, favs, opsOf]); go_wp2; exact OpPostE.some _ rfl rfl (Ext.refl _) rfl
  with_reducible apply FromM.eq
  · intro w' hx; have c1x := hx.cell c1; have c10x := hx.cell c10; have c11x := hx.cell c11; (try dsimp only [List.nil_append, List.cons_append, DepsL, DepsL1, setO, setN, favs, opsOf]); go_wp2; exact OpPostE.some _ rfl rfl (Ext.refl _) rfl
  with_reducible apply FromM.eq
  · intro w' hx; have c1x := hx.cell c1; have c10x := hx.cell c10; have c11x := hx.cell c11; (try dsimp only [List.nil_append, List.cons_append, DepsL, DepsL1, setO, setN, favs, opsOf]); go_wp2; exact OpPostE.some _ rfl rfl (Ext.refl _) rfl
  with_reducible apply FromM.eq
  · intro w' hx; (try dsimp only [List.nil_append, List.cons_append, DepsL, DepsL1, setO, setN, favs, opsOf]); refine op_call 46 [.tmp 21] _ _ _ rfl rfl rfl rfl rfl rfl (fun _ _ => Tryd.call46 _ _) (D1.out _) (fun e w2 h_ => ?_); obtain ⟨rfl, hb2⟩ := h_; exact ⟨_, rfl, hb2, rfl⟩
  with_reducible apply FromM.eq
  · intro w' hx; (try dsimp only [List.nil_append, List.cons_append, DepsL, DepsL1, setO, setN, favs, opsOf]); go_wp2; exact OpPostE.some _ rfl rfl (Ext.refl _) rfl
  with_reducible apply FromM.eq
  · intro w' hx; (try dsimp only [List.nil_append, List.cons_append, DepsL, DepsL1, setO, setN, favs, opsOf]); go_wp2; exact OpPostE.some _ rfl rfl (Ext.refl _) rfl
  with_reducible apply FromM.eq
  · intro w' hx; (try dsimp only [List.nil_append, List.cons_append, DepsL, DepsL1, setO, setN, favs, opsOf]); go_wp2; exact OpPostE.some _ rfl rfl (Ext.refl _) rfl
  with_reducible apply FromM.eq
  · intro w' hx; have c1x := hx.cell c1; have c10x := hx.cell c10; have c11x := hx.cell c11; (try dsimp only [List.nil_append, List.cons_append, DepsL, DepsL1, setO, setN, favs, opsOf]); go_wp2; exact OpPostE.some _ rfl rfl (Ext.refl _) rfl
  with_reducible apply FromM.eq
  · intro w' hx; have c1x := hx.cell c1; have c10x := hx.cell c10; have c11x := hx.cell c11; (try dsimp only [List.nil_append, List.cons_append, DepsL, DepsL1, setO, setN, favs, opsOf]); go_wp2; exact OpPostE.some _ rfl rfl (Ext.refl _) rfl
  with_reducible apply FromM.eq
  · intro w' hx; (try dsimp only [List.nil_append, List.cons_append, DepsL, DepsL1, setO, setN, favs, opsOf]); refine op_call 46 [.tmp 27] _ _ _ rfl rfl rfl rfl rfl rfl (fun _ _ => Tryd.call46 _ _) (D2.out _) (fun e w2 h_ => ?_); obtain ⟨rfl, hb2⟩ := h_; exact ⟨_, rfl, hb2, rfl⟩
  with_reducible apply FromM.eq
  · intro w' hx; (try dsimp only [List.nil_append, List.cons_append, DepsL, DepsL1, setO, setN, favs, opsOf]); go_wp2; exact OpPostE.some _ rfl rfl (Ext.refl _) rfl
  with_reducible apply FromM.eq
  · intro w' hx; (try dsimp only [List.nil_append, List.cons_append, DepsL, DepsL1, setO, setN, favs, opsOf]); go_wp2; exact OpPostE.some _ rfl rfl (Ext.refl _) rfl
  with_reducible apply FromM.eq
  · intro w' hx; (try dsimp only [List.nil_append, List.cons_append, DepsL, DepsL1, setO, setN, favs, opsOf]); go_wp2; exact OpPostE.some _ rfl rfl (Ext.refl _) rfl
  with_reducible refine FromM.fin ?_
  intro w' hx
  (try dsimp only [List.nil_append, List.cons_append, EndL, DepsL1, setO, setN])
  replace c12 := hx.cell c12
  replace X := X.trans hx
  clear hx c1 c10 c11
  go_wp2_with fail
  refine (SB.out _ (HTB.out.ext X) (HL.out.to X)).mono ?_; rintro e1 w1 ⟨rfl, x1⟩
  replace X := X.trans x1
  clear x1 c12
  go_wp2_with fail
  go_ret
  exact ⟨by rw [HTT.out]; rfl, X⟩
def BdRel {T : Type} (tx : T → List UInt8) (sep : UInt8) (H : ByteArray) (A : List T) (w : World) (s3 s4 : Value) (wr : World) : Prop := ∃ j : Nat, s4 = .int .i64 j ∧ j ≤ A.length ∧ s3 = .string (H ++ ⟨(linesL sep tx (A.take j)).toArray⟩) ∧ Ext w wr
theorem baNil (a : ByteArray) : (⟨#[]⟩ : ByteArray) ++ a = a := baEq (by rw [baApp]; rfl)
theorem baNil2 (a : ByteArray) : a ++ (⟨#[]⟩ : ByteArray) = a := baEq (by rw [baApp]; simp)
set_option maxRecDepth 100000 in
set_option maxHeartbeats 4000000 in
theorem Rbody_of (A : List S) (hok : A.all okS = true) (hwt : wtSs A ≤ 600) (hS : ∀ (i : Nat) x, A[i]? = some x → ∀ w, Tab w → InS w x → Calls Tryd.prog 54 #[x.v] w fun r w' => r = .returned (.string ⟨(txS x).toArray⟩) ∧ Ext w w') (n : Nat) (hn : A.length = n) (a : Option Addr) (c : Nat) (w : World) (ht : Tab w) (hA : InB w a A) : Calls Tryd.prog 52 #[.slice a n c] w fun r w' => r = .returned (.string ⟨(txSs A).toArray⟩) ∧ Ext w w' := by
  have hlen := len_body 32 hok hA
  have HSS := Lib.hid hS
  have HOK := Lib.hid hok
  have HL := Lib.hid hA
  have HTB := Lib.hid ht
  have hcap : n ≤ 9223372036854775807 := by rw [← hn]; exact Nat.le_trans hA.2 (by decide)
  have HN := Lib.hid hn
  have HLE : Hid ((linesL 32 txS A).length ≤ 40000) := Lib.hid (by omega)
  have HWT := Lib.hid hwt
  rw [txSs_lines]
  clear hS hA hn hlen hok ht hwt
  obtain ⟨RR, hRR⟩ : ∃ q : ByteArray, q = ⟨(linesL 32 txS A).toArray⟩ := ⟨_, rfl⟩
  rw [← hRR]
  have HRR := Lib.hid hRR
  clear hRR
  go_enter Tryd.func52, Tryd.ntmps52
  go_wp2_with fail
  go_loopw [3, 4] (BdRel txS 32 ⟨#[]⟩ A w) (fun _ s _ => n - (intOf s).toNat)
  case atStart => exact ⟨0, rfl, Nat.zero_le _, by rw [baNil]; rfl, Ext.refl _⟩
  case round =>
    obtain ⟨j, rfl, hj, rfl, hext⟩ := hrel
    rw [baNil]
    rw [HN.out] at hj
    have HX := Lib.hid hext
    clear hext
    by_cases hlt : j < n
    · obtain ⟨x, hxj⟩ := getE (l := A) (i := j) (by rw [HN.out]; exact hlt)
      obtain ⟨⟨b, o, rfl, k0, k1, k2, k3, k4, k5, k6, k7, k8, k9, k10, k11, k12⟩, hin⟩ := (HL.out.to HX.out).at hxj
      have ES := linesL_take 32 txS hxj
      have PC := HSS.out j x hxj
      have HLJ := linesL_le 32 txS A j
      have hq := len_txS (all_at HOK.out hxj) hin
      have hq2 := wtSs_get hxj
      have hq3 := HWT.out
      obtain ⟨P, hP⟩ : ∃ q : ByteArray, q = ⟨(linesL 32 txS (A.take j)).toArray⟩ := ⟨_, rfl⟩
      obtain ⟨Q, hQ⟩ : ∃ q : ByteArray, q = ⟨(txS x).toArray⟩ := ⟨_, rfl⟩
      have hPs : P.size ≤ 40000 := by rw [hP, mkS]; have := HLE.out; omega
      have hQs : Q.size ≤ 40000 := by rw [hQ, mkS]; omega
      have EV : Hid (P ++ Q ++ ⟨#[32]⟩ = (⟨#[]⟩ : ByteArray) ++ ⟨(linesL 32 txS (A.take (j + 1))).toArray⟩) := Lib.hid (by
        refine baEq ?_
        rw [ES, hP, hQ]
        simp only [baApp, mkL]; simp)
      rw [← hP]
      simp only [← hQ] at PC
      have HIN := Lib.hid hin
      unfold S.v at PC
      have um : ¬ 9223372036854775807 < P.size + Q.size := by omega
      have um2 : ¬ 9223372036854775807 < P.size + Q.size + 1 := by omega
      clear hP hQ hxj hin hq hq2 hq3 HLJ ES hPs hQs
      obtain ⟨xq0, hxq0⟩ : ∃ q, q = x.kind := ⟨_, rfl⟩
      obtain ⟨xq1, hxq1⟩ : ∃ q, q = x.name := ⟨_, rfl⟩
      obtain ⟨xq2, hxq2⟩ : ∃ q, q = x.typed := ⟨_, rfl⟩
      obtain ⟨xq3, hxq3⟩ : ∃ q, q = x.t.k := ⟨_, rfl⟩
      obtain ⟨xq4, hxq4⟩ : ∃ q, q = x.t.b := ⟨_, rfl⟩
      obtain ⟨xq5, hxq5⟩ : ∃ q, q = x.t.n := ⟨_, rfl⟩
      obtain ⟨xq6, hxq6⟩ : ∃ q, q = x.e.op := ⟨_, rfl⟩
      obtain ⟨xq7, hxq7⟩ : ∃ q, q = x.e.val := ⟨_, rfl⟩
      obtain ⟨xq8, hxq8⟩ : ∃ q, q = x.e.name := ⟨_, rfl⟩
      obtain ⟨xq9, hxq9⟩ : ∃ q, q = x.e.a := ⟨_, rfl⟩
      obtain ⟨xq10, hxq10⟩ : ∃ q, q = x.e.args.length := ⟨_, rfl⟩
      obtain ⟨xq11, hxq11⟩ : ∃ q, q = x.e.cap := ⟨_, rfl⟩
      obtain ⟨xq12, hxq12⟩ : ∃ q, q = x.lo := ⟨_, rfl⟩
      obtain ⟨xq13, hxq13⟩ : ∃ q, q = x.hi := ⟨_, rfl⟩
      obtain ⟨xq14, hxq14⟩ : ∃ q, q = x.a := ⟨_, rfl⟩
      obtain ⟨xq15, hxq15⟩ : ∃ q, q = x.body.length := ⟨_, rfl⟩
      obtain ⟨xq16, hxq16⟩ : ∃ q, q = x.cap := ⟨_, rfl⟩
      simp only [← hxq0, ← hxq1, ← hxq2, ← hxq3, ← hxq4, ← hxq5, ← hxq6, ← hxq7, ← hxq8, ← hxq9, ← hxq10, ← hxq11, ← hxq12, ← hxq13, ← hxq14, ← hxq15, ← hxq16] at k0 k1 k2 k3 k4 k5 k6 k7 k8 k9 k10 k11 k12 PC
      clear hxq0 hxq1 hxq2 hxq3 hxq4 hxq5 hxq6 hxq7 hxq8 hxq9 hxq10 hxq11 hxq12 hxq13 hxq14 hxq15 hxq16
      replace PC := Lib.hid PC
      go_wp2_with fail
      refine (PC.out _ (HTB.out.ext HX.out) HIN.out).mono ?_; rintro e w2 ⟨rfl, x2⟩
      have X2 := Lib.hid (HX.out.trans x2)
      clear x2 k0 k1 k2 k3 k4 k5 k6 k7 k8 k9 k10 k11 k12
      go_wp2_with fail
      go_roundw
      case rel => exact ⟨j + 1, by go_num, by rw [HN.out]; omega, by rw [EV.out], X2.out⟩
      case measure => simp [intOf]; omega
    · obtain rfl : j = n := by omega
      have ET : Hid (A.take j = A) := Lib.hid (List.take_of_length_le (by rw [HN.out]; exact Nat.le_refl _))
      rw [ET.out, ← HRR.out]
      have X := HX.out
      go_wp2_with fail
      go_ret
      exact ⟨rfl, X⟩
theorem RStmtText_n : ∀ (m : Nat) (x : S), S.sz x < m → okS x = true → wtS x ≤ 600 → ∀ w, Tab w → InS w x → Calls Tryd.prog 54 #[x.v] w fun r w' => r = .returned (.string ⟨(txS x).toArray⟩) ∧ Ext w w'
  | 0, _, h, _, _, _, _, _ => absurd h (by omega)
  | m + 1, x, hm, hok, hwt, w, ht, hx => by
    rcases okS_kind hok with h | h | h
    · cases hy : x.typed
      · exact RStmtText_1u x h.1 hok hwt hy w ht hx
      · exact RStmtText_1t x h.1 hok hwt hy w ht hx
    · exact RStmtText_2 x h.1 hok hwt w ht hx
    · have hb := wtS_b x
      refine RStmtText_3 x h.1 hok hwt (fun w' ht' hx' => ?_) w ht hx
      exact Rbody_of x.body h.2.2.2.2.2.2.2 (by omega) (fun i u hu w2 ht2 h2 => RStmtText_n m u (by have := S.sz_arg hu; omega) (all_at h.2.2.2.2.2.2.2 hu) (by have := wtSs_get hu; omega) w2 ht2 h2) x.body.length rfl x.a x.cap w' ht' hx'
theorem RStmtText_c (x : S) (hok : okS x = true) (hwt : wtS x ≤ 600) (w : World) (ht : Tab w) (hx : InS w x) : Calls Tryd.prog 54 #[x.v] w fun r w' => r = .returned (.string ⟨(txS x).toArray⟩) ∧ Ext w w' := RStmtText_n _ x (Nat.lt_succ_self _) hok hwt w ht hx
theorem Rbody_c (A : List S) (hok : A.all okS = true) (hwt : wtSs A ≤ 600) (n : Nat) (hn : A.length = n) (a : Option Addr) (c : Nat) (w : World) (ht : Tab w) (hA : InB w a A) : Calls Tryd.prog 52 #[.slice a n c] w fun r w' => r = .returned (.string ⟨(txSs A).toArray⟩) ∧ Ext w w' :=
  Rbody_of A hok hwt (fun i u hu w2 ht2 h2 => RStmtText_c u (all_at hok hu) (by have := wtSs_get hu; omega) w2 ht2 h2) n hn a c w ht hA
end Go.Proofs.YtcheigpejbmaoaaDoor
