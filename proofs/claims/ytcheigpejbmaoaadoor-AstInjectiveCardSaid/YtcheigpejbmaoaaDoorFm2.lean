/- Statements are written: let. Printed by gen/fm1.py. -/
import Derived.Test.YtcheigpejbmaoaaDoorFm1
namespace Go.Proofs.YtcheigpejbmaoaaDoor
open Go.RowKit
set_option maxRecDepth 100000 in
set_option maxHeartbeats 8000000 in
theorem writeStmt_1t (x : S) (hk : x.kind = 1) (hok : okS x = true) (hty : x.typed = true) : WSt x := by
  intro w0 b l v w he ht hx hb hp hlen
  have HX := Lib.hid hx
  have HBX := Lib.hid hb
  have HP := Lib.hid hp
  have HTB := Lib.hid ht
  have HT := txS_eq x
  have HLEN := Lib.hid hlen
  have bd := he.bd
  rw [hk, if_pos rfl, hty] at HT
  rw [okS_eq, if_pos hk, hty] at hok
  simp only [Bool.and_eq_true, decide_eq_true_eq, if_true] at hok
  obtain ⟨okt, okn, oke, -, -, -⟩ := hok
  have hnm := nameOk_le okn
  have HWE := fun l v w h1 h2 h3 h4 => writeE1 (b := b) oke he.e ht l v w h1 h2 h3 h4
  have TC := fun w' h => typeText_c x.t.k x.t.b x.t.n w' h okt
  obtain ⟨Y, hY⟩ : ∃ q : ByteArray, q = ⟨(tyTx x.t.k x.t.b x.t.n).toArray⟩ := ⟨_, rfl⟩
  have hYs : Y.size ≤ 47 := by rw [hY, mkSize]; exact tyTx_le okt
  have HY : Hid (tyTx x.t.k x.t.b x.t.n = Y.data.toList) := Lib.hid (by rw [hY])
  simp only [← hY] at TC
  obtain ⟨M, hM⟩ : ∃ q : ByteArray, q = ⟨#[58, 32]⟩ ++ Y := ⟨_, rfl⟩
  have tm : ¬ 9223372036854775807 < 2 + Y.size := by omega
  have HMM := Lib.hid hM
  obtain ⟨N, hN⟩ : ∃ q : ByteArray, q = ⟨#[108, 101, 116, 32]⟩ ++ x.name := ⟨_, rfl⟩
  have tn : ¬ 9223372036854775807 < 4 + x.name.size := by omega
  replace HT : txS x = N.data.toList ++ (M.data.toList ++ ((⟨#[32, 61, 32]⟩ : ByteArray).data.toList ++ (txB x.e ++ (⟨#[59]⟩ : ByteArray).data.toList))) := by
    rw [HT, if_pos rfl, hN, hM, baApp, baApp, ← HY.out]; simp
  obtain ⟨T, hT⟩ : ∃ q, q = txS x := ⟨_, rfl⟩
  obtain ⟨te, hte⟩ : ∃ q, q = txB x.e := ⟨_, rfl⟩
  rw [← hT] at HT HLEN ⊢
  rw [← hte] at HT
  simp only [← hte] at HWE
  unfold E.v at HWE
  unfold S.v
  rw [hk, hty]
  clear hT hte hY hM okt hYs hx hb hp ht he hlen bd okn oke hnm hk hty
  obtain ⟨xq0, hxq0⟩ : ∃ q, q = x.kind := ⟨_, rfl⟩
  obtain ⟨xq1, hxq1⟩ : ∃ q, q = x.name := ⟨_, rfl⟩
  obtain ⟨xq2, hxq2⟩ : ∃ q, q = x.typed := ⟨_, rfl⟩
  obtain ⟨xq3, hxq3⟩ : ∃ q, q = x.t.k := ⟨_, rfl⟩
  obtain ⟨xq4, hxq4⟩ : ∃ q, q = x.t.b := ⟨_, rfl⟩
  obtain ⟨xq5, hxq5⟩ : ∃ q, q = x.t.n := ⟨_, rfl⟩
  obtain ⟨xq6, hxq6⟩ : ∃ q, q = x.e.op := ⟨_, rfl⟩
  obtain ⟨xq7, hxq7⟩ : ∃ q, q = x.e.val := ⟨_, rfl⟩
  obtain ⟨xq8, hxq8⟩ : ∃ q, q = x.e.name := ⟨_, rfl⟩
  obtain ⟨xq9, hxq9⟩ : ∃ q, q = x.e.a := ⟨_, rfl⟩
  obtain ⟨xq10, hxq10⟩ : ∃ q, q = x.e.args.length := ⟨_, rfl⟩
  obtain ⟨xq11, hxq11⟩ : ∃ q, q = x.e.cap := ⟨_, rfl⟩
  obtain ⟨xq12, hxq12⟩ : ∃ q, q = x.lo := ⟨_, rfl⟩
  obtain ⟨xq13, hxq13⟩ : ∃ q, q = x.hi := ⟨_, rfl⟩
  obtain ⟨xq14, hxq14⟩ : ∃ q, q = x.a := ⟨_, rfl⟩
  obtain ⟨xq15, hxq15⟩ : ∃ q, q = x.body.length := ⟨_, rfl⟩
  obtain ⟨xq16, hxq16⟩ : ∃ q, q = x.cap := ⟨_, rfl⟩
  simp only [← hxq0, ← hxq1, ← hxq2, ← hxq3, ← hxq4, ← hxq5, ← hxq6, ← hxq7, ← hxq8, ← hxq9, ← hxq10, ← hxq11, ← hxq12, ← hxq13, ← hxq14, ← hxq15, ← hxq16] at HWE hN tn ⊢ TC
  clear hxq0 hxq1 hxq2 hxq3 hxq4 hxq5 hxq6 hxq7 hxq8 hxq9 hxq10 hxq11 hxq12 hxq13 hxq14 hxq15 hxq16
  replace HT := Lib.hid HT
  replace HWE := Lib.hid HWE
  have HNN := Lib.hid hN
  clear hN
  replace TC := Lib.hid TC
  go_enter Tryd.func49, Tryd.ntmps49
  go_wp2_with fail
  obtain ⟨wb, hwb⟩ : ∃ q, q = w.alloc (.cells #[.int .i64 1, .string xq1, .bool true, .int .i64 xq3, .int .i64 xq4, .int .i64 xq5, .int .i64 xq6, .int .u64 (xq7 : Int), .string xq8, .slice xq9 xq10 xq11, .int .i64 xq12, .int .i64 xq13, .slice xq14 xq15 xq16] 61) := ⟨_, rfl⟩
  have c0 : wb.cell? ⟨w.heap.size, 0, none⟩ = some (.int .i64 1) := by rw [hwb]; simp
  have C0 := Lib.hid c0
  have c1 : wb.cell? ⟨w.heap.size, 1, none⟩ = some (.string xq1) := by rw [hwb]; simp
  have C1 := Lib.hid c1
  have c2 : wb.cell? ⟨w.heap.size, 2, none⟩ = some (.bool true) := by rw [hwb]; simp
  have C2 := Lib.hid c2
  have c3 : wb.cell? ⟨w.heap.size, 3, none⟩ = some (.int .i64 xq3) := by rw [hwb]; simp
  have C3 := Lib.hid c3
  have c4 : wb.cell? ⟨w.heap.size, 4, none⟩ = some (.int .i64 xq4) := by rw [hwb]; simp
  have C4 := Lib.hid c4
  have c5 : wb.cell? ⟨w.heap.size, 5, none⟩ = some (.int .i64 xq5) := by rw [hwb]; simp
  have C5 := Lib.hid c5
  have c6 : wb.cell? ⟨w.heap.size, 6, none⟩ = some (.int .i64 xq6) := by rw [hwb]; simp
  have C6 := Lib.hid c6
  have c7 : wb.cell? ⟨w.heap.size, 7, none⟩ = some (.int .u64 (xq7 : Int)) := by rw [hwb]; simp
  have C7 := Lib.hid c7
  have c8 : wb.cell? ⟨w.heap.size, 8, none⟩ = some (.string xq8) := by rw [hwb]; simp
  have C8 := Lib.hid c8
  have c9 : wb.cell? ⟨w.heap.size, 9, none⟩ = some (.slice xq9 xq10 xq11) := by rw [hwb]; simp
  have C9 := Lib.hid c9
  have c10 : wb.cell? ⟨w.heap.size, 10, none⟩ = some (.int .i64 xq12) := by rw [hwb]; simp
  have C10 := Lib.hid c10
  have c11 : wb.cell? ⟨w.heap.size, 11, none⟩ = some (.int .i64 xq13) := by rw [hwb]; simp
  have C11 := Lib.hid c11
  have c12 : wb.cell? ⟨w.heap.size, 12, none⟩ = some (.slice xq14 xq15 xq16) := by rw [hwb]; simp
  have C12 := Lib.hid c12
  have HXB : Hid (Ext w wb) := Lib.hid (by rw [hwb]; exact (Ext.refl _).alloc _)
  have HX0 : Hid (Ext w0 wb) := Lib.hid (HX.out.trans HXB.out)
  have HA : Hid (Aft b v wb l v wb) := Lib.hid (Aft.ofExt (HBX.out.ext HXB.out) (Ext.refl _))
  have NB : Hid (w.heap.size ≠ b) := Lib.hid (by have := HBX.out.lt; omega)
  have NV : Hid (v.ownBlock ≠ some w.heap.size) := Lib.hid (fun q => by have := HBX.out.own q; omega)
  rw [← hwb]
  clear hwb
  rw [← HNN.out]
  refine (WriteString_c b _ _ N _ HA.out.bx (by have q := HLEN.out; rw [HT.out] at q; rw [lenS]; (try simp only [List.length_append] at q ⊢); omega)).mono ?_; rintro e1 wn ⟨rfl, vn, ha⟩
  have HA := Lib.hid (HA.out.trans ha)
  clear ha
  clear c0 c1 c2 c3 c4 c5 c6 c7 c8 c9 c10 c11 c12 tn
  have c2 := HA.out.cell C2.out NB.out NV.out
  have c3 := HA.out.cell C3.out NB.out NV.out
  have c4 := HA.out.cell C4.out NB.out NV.out
  have c5 := HA.out.cell C5.out NB.out NV.out
  go_wp2_with fail
  refine (TC.out _ (HTB.out.ext (HA.out.ext HX0.out HP.out))).mono ?_; rintro e1 wn ⟨rfl, x2⟩
  have HA := Lib.hid (HA.out.grow x2)
  clear x2 c2 c3 c4 c5
  go_wp2_with fail
  rw [← HMM.out]
  refine (WriteString_c b _ _ M _ HA.out.bx (by have q := HLEN.out; rw [HT.out] at q; rw [lenS]; (try simp only [List.length_append] at q ⊢); omega)).mono ?_; rintro e1 wn ⟨rfl, vn, ha⟩
  have HA := Lib.hid (HA.out.trans ha)
  clear ha
  clear tm
  go_wp2_with fail
  refine (WriteString_c b _ _ ⟨#[32, 61, 32]⟩ _ HA.out.bx (by have q := HLEN.out; rw [HT.out] at q; rw [lenS]; (try simp only [List.length_append] at q ⊢); omega)).mono ?_; rintro e1 wn ⟨rfl, vn, ha⟩
  have HA := Lib.hid (HA.out.trans ha)
  clear ha
  have c6 := HA.out.cell C6.out NB.out NV.out
  have c7 := HA.out.cell C7.out NB.out NV.out
  have c8 := HA.out.cell C8.out NB.out NV.out
  have c9 := HA.out.cell C9.out NB.out NV.out
  go_wp2_with fail
  refine (HWE.out _ _ _ (HA.out.ext HX0.out HP.out) HA.out.bx (HA.out.past HX0.out.size HP.out) (by have q := HLEN.out; rw [HT.out] at q; (try simp only [List.length_append] at q ⊢); omega)).mono ?_; rintro e1 wn ⟨rfl, vn, ha⟩
  have HA := Lib.hid (HA.out.trans ha)
  clear ha
  clear c6 c7 c8 c9
  go_wp2_with fail
  refine (WriteString_c b _ _ ⟨#[59]⟩ _ HA.out.bx (by have q := HLEN.out; rw [HT.out] at q; rw [lenS]; (try simp only [List.length_append] at q ⊢); omega)).mono ?_; rintro e1 wn ⟨rfl, vn, ha⟩
  have HA := Lib.hid (HA.out.trans ha)
  clear ha
  go_wp2_with fail
  first | go_end0 | ((try simp only [Exit.inBlock, Exit.then]); refine bodyPost_ret (results_none rfl _ _ _) rfl ?_)
  refine ⟨rfl, vn, Aft.start HBX.out HXB.out ?_⟩
  have q := HA.out
  (try simp only [List.append_assoc] at q)
  rw [HT.out]
  exact q
set_option maxRecDepth 100000 in
set_option maxHeartbeats 8000000 in
theorem writeStmt_1u (x : S) (hk : x.kind = 1) (hok : okS x = true) (hty : x.typed = false) : WSt x := by
  intro w0 b l v w he ht hx hb hp hlen
  have HX := Lib.hid hx
  have HBX := Lib.hid hb
  have HP := Lib.hid hp
  have HTB := Lib.hid ht
  have HT := txS_eq x
  have HLEN := Lib.hid hlen
  have bd := he.bd
  rw [hk, if_pos rfl, hty] at HT
  rw [okS_eq, if_pos hk, hty] at hok
  simp only [Bool.and_eq_true, decide_eq_true_eq] at hok
  obtain ⟨okt, okn, oke, -, -, -⟩ := hok
  have hnm := nameOk_le okn
  have HWE := fun l v w h1 h2 h3 h4 => writeE1 (b := b) oke he.e ht l v w h1 h2 h3 h4
  obtain ⟨N, hN⟩ : ∃ q : ByteArray, q = ⟨#[108, 101, 116, 32]⟩ ++ x.name := ⟨_, rfl⟩
  have tn : ¬ 9223372036854775807 < 4 + x.name.size := by omega
  replace HT : txS x = N.data.toList ++ ((⟨#[32, 61, 32]⟩ : ByteArray).data.toList ++ (txB x.e ++ (⟨#[59]⟩ : ByteArray).data.toList)) := by
    rw [HT, if_neg (by decide), hN, baApp]; simp
  obtain ⟨T, hT⟩ : ∃ q, q = txS x := ⟨_, rfl⟩
  obtain ⟨te, hte⟩ : ∃ q, q = txB x.e := ⟨_, rfl⟩
  rw [← hT] at HT HLEN ⊢
  rw [← hte] at HT
  simp only [← hte] at HWE
  unfold E.v at HWE
  unfold S.v
  rw [hk, hty]
  clear hT hte okt hx hb hp ht he hlen bd okn oke hnm hk hty
  obtain ⟨xq0, hxq0⟩ : ∃ q, q = x.kind := ⟨_, rfl⟩
  obtain ⟨xq1, hxq1⟩ : ∃ q, q = x.name := ⟨_, rfl⟩
  obtain ⟨xq2, hxq2⟩ : ∃ q, q = x.typed := ⟨_, rfl⟩
  obtain ⟨xq3, hxq3⟩ : ∃ q, q = x.t.k := ⟨_, rfl⟩
  obtain ⟨xq4, hxq4⟩ : ∃ q, q = x.t.b := ⟨_, rfl⟩
  obtain ⟨xq5, hxq5⟩ : ∃ q, q = x.t.n := ⟨_, rfl⟩
  obtain ⟨xq6, hxq6⟩ : ∃ q, q = x.e.op := ⟨_, rfl⟩
  obtain ⟨xq7, hxq7⟩ : ∃ q, q = x.e.val := ⟨_, rfl⟩
  obtain ⟨xq8, hxq8⟩ : ∃ q, q = x.e.name := ⟨_, rfl⟩
  obtain ⟨xq9, hxq9⟩ : ∃ q, q = x.e.a := ⟨_, rfl⟩
  obtain ⟨xq10, hxq10⟩ : ∃ q, q = x.e.args.length := ⟨_, rfl⟩
  obtain ⟨xq11, hxq11⟩ : ∃ q, q = x.e.cap := ⟨_, rfl⟩
  obtain ⟨xq12, hxq12⟩ : ∃ q, q = x.lo := ⟨_, rfl⟩
  obtain ⟨xq13, hxq13⟩ : ∃ q, q = x.hi := ⟨_, rfl⟩
  obtain ⟨xq14, hxq14⟩ : ∃ q, q = x.a := ⟨_, rfl⟩
  obtain ⟨xq15, hxq15⟩ : ∃ q, q = x.body.length := ⟨_, rfl⟩
  obtain ⟨xq16, hxq16⟩ : ∃ q, q = x.cap := ⟨_, rfl⟩
  simp only [← hxq0, ← hxq1, ← hxq2, ← hxq3, ← hxq4, ← hxq5, ← hxq6, ← hxq7, ← hxq8, ← hxq9, ← hxq10, ← hxq11, ← hxq12, ← hxq13, ← hxq14, ← hxq15, ← hxq16] at HWE hN tn ⊢
  clear hxq0 hxq1 hxq2 hxq3 hxq4 hxq5 hxq6 hxq7 hxq8 hxq9 hxq10 hxq11 hxq12 hxq13 hxq14 hxq15 hxq16
  replace HT := Lib.hid HT
  replace HWE := Lib.hid HWE
  have HNN := Lib.hid hN
  clear hN
  go_enter Tryd.func49, Tryd.ntmps49
  go_wp2_with fail
  obtain ⟨wb, hwb⟩ : ∃ q, q = w.alloc (.cells #[.int .i64 1, .string xq1, .bool false, .int .i64 xq3, .int .i64 xq4, .int .i64 xq5, .int .i64 xq6, .int .u64 (xq7 : Int), .string xq8, .slice xq9 xq10 xq11, .int .i64 xq12, .int .i64 xq13, .slice xq14 xq15 xq16] 61) := ⟨_, rfl⟩
  have c0 : wb.cell? ⟨w.heap.size, 0, none⟩ = some (.int .i64 1) := by rw [hwb]; simp
  have C0 := Lib.hid c0
  have c1 : wb.cell? ⟨w.heap.size, 1, none⟩ = some (.string xq1) := by rw [hwb]; simp
  have C1 := Lib.hid c1
  have c2 : wb.cell? ⟨w.heap.size, 2, none⟩ = some (.bool false) := by rw [hwb]; simp
  have C2 := Lib.hid c2
  have c3 : wb.cell? ⟨w.heap.size, 3, none⟩ = some (.int .i64 xq3) := by rw [hwb]; simp
  have C3 := Lib.hid c3
  have c4 : wb.cell? ⟨w.heap.size, 4, none⟩ = some (.int .i64 xq4) := by rw [hwb]; simp
  have C4 := Lib.hid c4
  have c5 : wb.cell? ⟨w.heap.size, 5, none⟩ = some (.int .i64 xq5) := by rw [hwb]; simp
  have C5 := Lib.hid c5
  have c6 : wb.cell? ⟨w.heap.size, 6, none⟩ = some (.int .i64 xq6) := by rw [hwb]; simp
  have C6 := Lib.hid c6
  have c7 : wb.cell? ⟨w.heap.size, 7, none⟩ = some (.int .u64 (xq7 : Int)) := by rw [hwb]; simp
  have C7 := Lib.hid c7
  have c8 : wb.cell? ⟨w.heap.size, 8, none⟩ = some (.string xq8) := by rw [hwb]; simp
  have C8 := Lib.hid c8
  have c9 : wb.cell? ⟨w.heap.size, 9, none⟩ = some (.slice xq9 xq10 xq11) := by rw [hwb]; simp
  have C9 := Lib.hid c9
  have c10 : wb.cell? ⟨w.heap.size, 10, none⟩ = some (.int .i64 xq12) := by rw [hwb]; simp
  have C10 := Lib.hid c10
  have c11 : wb.cell? ⟨w.heap.size, 11, none⟩ = some (.int .i64 xq13) := by rw [hwb]; simp
  have C11 := Lib.hid c11
  have c12 : wb.cell? ⟨w.heap.size, 12, none⟩ = some (.slice xq14 xq15 xq16) := by rw [hwb]; simp
  have C12 := Lib.hid c12
  have HXB : Hid (Ext w wb) := Lib.hid (by rw [hwb]; exact (Ext.refl _).alloc _)
  have HX0 : Hid (Ext w0 wb) := Lib.hid (HX.out.trans HXB.out)
  have HA : Hid (Aft b v wb l v wb) := Lib.hid (Aft.ofExt (HBX.out.ext HXB.out) (Ext.refl _))
  have NB : Hid (w.heap.size ≠ b) := Lib.hid (by have := HBX.out.lt; omega)
  have NV : Hid (v.ownBlock ≠ some w.heap.size) := Lib.hid (fun q => by have := HBX.out.own q; omega)
  rw [← hwb]
  clear hwb
  rw [← HNN.out]
  refine (WriteString_c b _ _ N _ HA.out.bx (by have q := HLEN.out; rw [HT.out] at q; rw [lenS]; (try simp only [List.length_append] at q ⊢); omega)).mono ?_; rintro e1 wn ⟨rfl, vn, ha⟩
  have HA := Lib.hid (HA.out.trans ha)
  clear ha
  clear c0 c1 c2 c3 c4 c5 c6 c7 c8 c9 c10 c11 c12 tn
  have c2 := HA.out.cell C2.out NB.out NV.out
  go_wp2_with fail
  refine (WriteString_c b _ _ ⟨#[32, 61, 32]⟩ _ HA.out.bx (by have q := HLEN.out; rw [HT.out] at q; rw [lenS]; (try simp only [List.length_append] at q ⊢); omega)).mono ?_; rintro e1 wn ⟨rfl, vn, ha⟩
  have HA := Lib.hid (HA.out.trans ha)
  clear ha
  clear c2
  have c6 := HA.out.cell C6.out NB.out NV.out
  have c7 := HA.out.cell C7.out NB.out NV.out
  have c8 := HA.out.cell C8.out NB.out NV.out
  have c9 := HA.out.cell C9.out NB.out NV.out
  go_wp2_with fail
  refine (HWE.out _ _ _ (HA.out.ext HX0.out HP.out) HA.out.bx (HA.out.past HX0.out.size HP.out) (by have q := HLEN.out; rw [HT.out] at q; (try simp only [List.length_append] at q ⊢); omega)).mono ?_; rintro e1 wn ⟨rfl, vn, ha⟩
  have HA := Lib.hid (HA.out.trans ha)
  clear ha
  clear c6 c7 c8 c9
  go_wp2_with fail
  refine (WriteString_c b _ _ ⟨#[59]⟩ _ HA.out.bx (by have q := HLEN.out; rw [HT.out] at q; rw [lenS]; (try simp only [List.length_append] at q ⊢); omega)).mono ?_; rintro e1 wn ⟨rfl, vn, ha⟩
  have HA := Lib.hid (HA.out.trans ha)
  clear ha
  go_wp2_with fail
  first | go_end0 | ((try simp only [Exit.inBlock, Exit.then]); refine bodyPost_ret (results_none rfl _ _ _) rfl ?_)
  refine ⟨rfl, vn, Aft.start HBX.out HXB.out ?_⟩
  have q := HA.out
  (try simp only [List.append_assoc] at q)
  rw [HT.out]
  exact q
end Go.Proofs.YtcheigpejbmaoaaDoor
