/- Statements are written: for; every well-formed statement. Printed by gen/fm1.py. -/
import Derived.Test.YtcheigpejbmaoaaDoorGF
import Derived.Test.YtcheigpejbmaoaaDoorGJ
import Derived.Test.YtcheigpejbmaoaaDoorVb4
namespace Go.Proofs.YtcheigpejbmaoaaDoor
open Go.RowKit
set_option maxRecDepth 100000 in
set_option maxHeartbeats 8000000 in
theorem writeStmt_3 (x : S) (hk : x.kind = 3) (hok : okS x = true) (hB : WSs x.body) : WSt x := by
  intro w0 b l v w he ht hx hb hp hlen
  have HX := Lib.hid hx
  have HBX := Lib.hid hb
  have HP := Lib.hid hp
  have HTB := Lib.hid ht
  have HT := txS_eq x
  have HLEN := Lib.hid hlen
  have bd := he.bd
  rw [hk, if_neg (by decide), if_neg (by decide), if_pos rfl] at HT
  rw [okS_eq, hk, if_neg (by decide), if_neg (by decide), if_pos rfl] at hok
  simp only [Bool.and_eq_true, lpN, decide_eq_true_eq] at hok
  obtain ⟨okn, -, -, ⟨l0, l1⟩, ⟨g0, g1⟩, -⟩ := hok
  have hnm := nameOk_le okn
  have HWB := fun l v w h1 h2 h3 h4 => hB w0 b l v w x.body.length rfl x.a x.cap he.l ht h1 h2 h3 h4
  have IC1 := fun w' h => Itoa_c x.lo (by omega) (by omega) w' h
  have IC2 := fun w' h => Itoa_c x.hi (by omega) (by omega) w' h
  obtain ⟨I1, hI1⟩ : ∃ q : ByteArray, q = ⟨(Lib.itoa x.lo).toArray⟩ := ⟨_, rfl⟩
  obtain ⟨I2, hI2⟩ : ∃ q : ByteArray, q = ⟨(Lib.itoa x.hi).toArray⟩ := ⟨_, rfl⟩
  have e1 : Lib.decDigits x.lo.toNat = I1.data.toList := by
    rw [hI1]; show _ = Lib.itoa x.lo
    unfold Lib.itoa; rw [if_neg (by omega)]
  have e2 : Lib.decDigits x.hi.toNat = I2.data.toList := by
    rw [hI2]; show _ = Lib.itoa x.hi
    unfold Lib.itoa; rw [if_neg (by omega)]
  have s1 : I1.size ≤ 20 := by rw [lenS, ← e1]; exact digits_le _ (by omega)
  have s2 : I2.size ≤ 20 := by rw [lenS, ← e2]; exact digits_le _ (by omega)
  simp only [← hI1] at IC1
  simp only [← hI2] at IC2
  obtain ⟨N, hN⟩ : ∃ q : ByteArray, q = (⟨#[102, 111, 114, 32]⟩ : ByteArray) ++ x.name ++ ⟨#[32, 105, 110, 32]⟩ ++ I1 ++ ⟨#[46, 46]⟩ ++ I2 ++ ⟨#[32, 123, 32]⟩ := ⟨_, rfl⟩
  have u1 : ¬ 9223372036854775807 < 4 + x.name.size := by omega
  have u2 : ¬ 9223372036854775807 < 4 + x.name.size + 4 := by omega
  have u3 : ¬ 9223372036854775807 < 4 + x.name.size + 4 + I1.size := by omega
  have u4 : ¬ 9223372036854775807 < 4 + x.name.size + 4 + I1.size + 2 := by omega
  have u5 : ¬ 9223372036854775807 < 4 + x.name.size + 4 + I1.size + 2 + I2.size := by omega
  have u6 : ¬ 9223372036854775807 < 4 + x.name.size + 4 + I1.size + 2 + I2.size + 3 := by omega
  replace HT : txS x = N.data.toList ++ (txSs x.body ++ (⟨#[125]⟩ : ByteArray).data.toList) := by
    rw [HT, e1, e2, hN]; simp only [baApp]; simp
  obtain ⟨T, hT⟩ : ∃ q, q = txS x := ⟨_, rfl⟩
  obtain ⟨te, hte⟩ : ∃ q, q = txSs x.body := ⟨_, rfl⟩
  rw [← hT] at HT HLEN ⊢
  rw [← hte] at HT
  simp only [← hte] at HWB
  unfold S.v
  rw [hk]
  clear hT hte hx hb hp ht he hlen bd okn hnm hk hB e1 e2 hI1 hI2 s1 s2 l0 l1 g0 g1
  obtain ⟨xq0, hxq0⟩ : ∃ q, q = x.kind := ⟨_, rfl⟩
  obtain ⟨xq1, hxq1⟩ : ∃ q, q = x.name := ⟨_, rfl⟩
  obtain ⟨xq2, hxq2⟩ : ∃ q, q = x.typed := ⟨_, rfl⟩
  obtain ⟨xq3, hxq3⟩ : ∃ q, q = x.t.k := ⟨_, rfl⟩
  obtain ⟨xq4, hxq4⟩ : ∃ q, q = x.t.b := ⟨_, rfl⟩
  obtain ⟨xq5, hxq5⟩ : ∃ q, q = x.t.n := ⟨_, rfl⟩
  obtain ⟨xq6, hxq6⟩ : ∃ q, q = x.e.op := ⟨_, rfl⟩
  obtain ⟨xq7, hxq7⟩ : ∃ q, q = x.e.val := ⟨_, rfl⟩
  obtain ⟨xq8, hxq8⟩ : ∃ q, q = x.e.name := ⟨_, rfl⟩
  obtain ⟨xq9, hxq9⟩ : ∃ q, q = x.e.a := ⟨_, rfl⟩
  obtain ⟨xq10, hxq10⟩ : ∃ q, q = x.e.args.length := ⟨_, rfl⟩
  obtain ⟨xq11, hxq11⟩ : ∃ q, q = x.e.cap := ⟨_, rfl⟩
  obtain ⟨xq12, hxq12⟩ : ∃ q, q = x.lo := ⟨_, rfl⟩
  obtain ⟨xq13, hxq13⟩ : ∃ q, q = x.hi := ⟨_, rfl⟩
  obtain ⟨xq14, hxq14⟩ : ∃ q, q = x.a := ⟨_, rfl⟩
  obtain ⟨xq15, hxq15⟩ : ∃ q, q = x.body.length := ⟨_, rfl⟩
  obtain ⟨xq16, hxq16⟩ : ∃ q, q = x.cap := ⟨_, rfl⟩
  simp only [← hxq0, ← hxq1, ← hxq2, ← hxq3, ← hxq4, ← hxq5, ← hxq6, ← hxq7, ← hxq8, ← hxq9, ← hxq10, ← hxq11, ← hxq12, ← hxq13, ← hxq14, ← hxq15, ← hxq16] at HWB IC1 IC2 hN u1 u2 u3 u4 u5 u6 ⊢
  clear hxq0 hxq1 hxq2 hxq3 hxq4 hxq5 hxq6 hxq7 hxq8 hxq9 hxq10 hxq11 hxq12 hxq13 hxq14 hxq15 hxq16
  replace HT := Lib.hid HT
  replace HWB := Lib.hid HWB
  replace IC1 := Lib.hid IC1
  replace IC2 := Lib.hid IC2
  have HNN := Lib.hid hN
  clear hN
  go_enter Tryd.func49, Tryd.ntmps49
  go_wp2_with fail
  obtain ⟨wb, hwb⟩ : ∃ q, q = w.alloc (.cells #[.int .i64 3, .string xq1, .bool xq2, .int .i64 xq3, .int .i64 xq4, .int .i64 xq5, .int .i64 xq6, .int .u64 (xq7 : Int), .string xq8, .slice xq9 xq10 xq11, .int .i64 xq12, .int .i64 xq13, .slice xq14 xq15 xq16] 61) := ⟨_, rfl⟩
  have c1 : wb.cell? ⟨w.heap.size, 1, none⟩ = some (.string xq1) := by rw [hwb]; simp
  have C1 := Lib.hid c1
  have c10 : wb.cell? ⟨w.heap.size, 10, none⟩ = some (.int .i64 xq12) := by rw [hwb]; simp
  have C10 := Lib.hid c10
  have c11 : wb.cell? ⟨w.heap.size, 11, none⟩ = some (.int .i64 xq13) := by rw [hwb]; simp
  have C11 := Lib.hid c11
  have c12 : wb.cell? ⟨w.heap.size, 12, none⟩ = some (.slice xq14 xq15 xq16) := by rw [hwb]; simp
  have C12 := Lib.hid c12
  have HXB : Hid (Ext w wb) := Lib.hid (by rw [hwb]; exact (Ext.refl _).alloc _)
  have HX0 : Hid (Ext w0 wb) := Lib.hid (HX.out.trans HXB.out)
  have HA : Hid (Aft b v wb l v wb) := Lib.hid (Aft.ofExt (HBX.out.ext HXB.out) (Ext.refl _))
  have NB : Hid (w.heap.size ≠ b) := Lib.hid (by have := HBX.out.lt; omega)
  have NV : Hid (v.ownBlock ≠ some w.heap.size) := Lib.hid (fun q => by have := HBX.out.own q; omega)
  rw [← hwb]
  clear hwb
  refine region_factsL [[], [], [(1, 42)], [(2, 43)], [(3, 44)], [], [(5, 46)], [(6, 47)], [(4, 45), (7, 48)], [(8, 49)], [], [(10, 51)], [(11, 52)], [(9, 50), (12, 53)], [(13, 54)]] [some 41, some 42, some 43, some 44, some 45, some 46, some 47, some 48, some 49, some 50, some 51, some 52, some 53, some 54, some 55] [true, false, false, true, false, false, false, false, false, false, false, false, false, false, false, false, false, false, false, false, false, false, false, false, false, false, false, false, false, false, false, false, false, false, false, false, false, false, false, false, false, false, false, false, false, false, false, false, false, false, false, false, false, false, false, false, false, false, false, false, false, false, false] (by kernel_rfl) (by kernel_rfl) (by kernel_rfl) ?_
  dsimp only [maskL]
  with_reducible apply FromM.eq
  · intro w' hx; (try dsimp only [List.nil_append, List.cons_append, DepsL, DepsL1, setO, setN, favs, opsOf]); go_wp2; exact OpPostE.some _ rfl rfl (Ext.refl _) rfl
  with_reducible apply FromM.eq
  · intro w' hx; (try dsimp only [List.nil_append, List.cons_append, DepsL, DepsL1, setO, setN, favs, opsOf]); go_wp2; exact OpPostE.some _ rfl rfl (Ext.refl _) rfl
  with_reducible apply FromM.eq
  · intro w' hx; have c1x := hx.cell c1; have c10x := hx.cell c10; have c11x := hx.cell c11; (try dsimp only [List.nil_append, List.cons_append, DepsL, DepsL1, setO, setN, favs, opsOf]); go_wp2; exact OpPostE.some _ rfl rfl (Ext.refl _) rfl
  with_reducible apply FromM.eq
  · intro w' hx; (try dsimp only [List.nil_append, List.cons_append, DepsL, DepsL1, setO, setN, favs, opsOf]); go_wp2; exact OpPostE.some _ rfl rfl (Ext.refl _) rfl
  with_reducible apply FromM.eq
  · intro w' hx; (try dsimp only [List.nil_append, List.cons_append, DepsL, DepsL1, setO, setN, favs, opsOf]); go_wp2; exact OpPostE.some _ rfl rfl (Ext.refl _) rfl
  with_reducible apply FromM.eq
  · intro w' hx; (try dsimp only [List.nil_append, List.cons_append, DepsL, DepsL1, setO, setN, favs, opsOf]); go_wp2; exact OpPostE.some _ rfl rfl (Ext.refl _) rfl
  with_reducible apply FromM.eq
  · intro w' hx; have c1x := hx.cell c1; have c10x := hx.cell c10; have c11x := hx.cell c11; (try dsimp only [List.nil_append, List.cons_append, DepsL, DepsL1, setO, setN, favs, opsOf]); go_wp2; exact OpPostE.some _ rfl rfl (Ext.refl _) rfl
  with_reducible apply FromM.eq
  · intro w' hx; (try dsimp only [List.nil_append, List.cons_append, DepsL, DepsL1, setO, setN, favs, opsOf]); refine op_call 72 [.tmp 47] _ _ _ rfl rfl rfl rfl rfl rfl (fun _ _ => Tryd.call72 _ _) (IC1.out _ (HTB.out.ext (HX0.out.trans hx))) (fun e w2 h_ => ?_); obtain ⟨rfl, hb2⟩ := h_; exact ⟨_, rfl, hb2, rfl⟩
  with_reducible apply FromM.eq
  · intro w' hx; (try dsimp only [List.nil_append, List.cons_append, DepsL, DepsL1, setO, setN, favs, opsOf]); go_wp2; exact OpPostE.some _ rfl rfl (Ext.refl _) rfl
  with_reducible apply FromM.eq
  · intro w' hx; (try dsimp only [List.nil_append, List.cons_append, DepsL, DepsL1, setO, setN, favs, opsOf]); go_wp2; exact OpPostE.some _ rfl rfl (Ext.refl _) rfl
  with_reducible apply FromM.eq
  · intro w' hx; (try dsimp only [List.nil_append, List.cons_append, DepsL, DepsL1, setO, setN, favs, opsOf]); go_wp2; exact OpPostE.some _ rfl rfl (Ext.refl _) rfl
  with_reducible apply FromM.eq
  · intro w' hx; have c1x := hx.cell c1; have c10x := hx.cell c10; have c11x := hx.cell c11; (try dsimp only [List.nil_append, List.cons_append, DepsL, DepsL1, setO, setN, favs, opsOf]); go_wp2; exact OpPostE.some _ rfl rfl (Ext.refl _) rfl
  with_reducible apply FromM.eq
  · intro w' hx; (try dsimp only [List.nil_append, List.cons_append, DepsL, DepsL1, setO, setN, favs, opsOf]); refine op_call 72 [.tmp 52] _ _ _ rfl rfl rfl rfl rfl rfl (fun _ _ => Tryd.call72 _ _) (IC2.out _ (HTB.out.ext (HX0.out.trans hx))) (fun e w2 h_ => ?_); obtain ⟨rfl, hb2⟩ := h_; exact ⟨_, rfl, hb2, rfl⟩
  with_reducible apply FromM.eq
  · intro w' hx; (try dsimp only [List.nil_append, List.cons_append, DepsL, DepsL1, setO, setN, favs, opsOf]); go_wp2; exact OpPostE.some _ rfl rfl (Ext.refl _) rfl
  with_reducible apply FromM.eq
  · intro w' hx; (try dsimp only [List.nil_append, List.cons_append, DepsL, DepsL1, setO, setN, favs, opsOf]); go_wp2; exact OpPostE.some _ rfl rfl (Ext.refl _) rfl
  with_reducible refine FromM.fin ?_
  intro w' hx
  (try dsimp only [List.nil_append, List.cons_append, EndL, DepsL1, setO, setN])
  have HA := Lib.hid (HA.out.grow hx)
  clear hx c1 c10 c11 c12 u1 u2 u3 u4 u5 u6
  go_wp2_with fail
  rw [← HNN.out]
  refine (WriteString_c b _ _ N _ HA.out.bx (by have q := HLEN.out; rw [HT.out] at q; rw [lenS]; (try simp only [List.length_append] at q ⊢); omega)).mono ?_; rintro e1 wn ⟨rfl, vn, ha⟩
  have HA := Lib.hid (HA.out.trans ha)
  clear ha
  have c12 := HA.out.cell C12.out NB.out NV.out
  go_wp2_with fail
  refine (HWB.out _ _ _ (HA.out.ext HX0.out HP.out) HA.out.bx (HA.out.past HX0.out.size HP.out) (by have q := HLEN.out; rw [HT.out] at q; (try simp only [List.length_append] at q ⊢); omega)).mono ?_; rintro e1 wn ⟨rfl, vn, ha⟩
  have HA := Lib.hid (HA.out.trans ha)
  clear ha
  clear c12
  go_wp2_with fail
  refine (WriteString_c b _ _ ⟨#[125]⟩ _ HA.out.bx (by have q := HLEN.out; rw [HT.out] at q; rw [lenS]; (try simp only [List.length_append] at q ⊢); omega)).mono ?_; rintro e1 wn ⟨rfl, vn, ha⟩
  have HA := Lib.hid (HA.out.trans ha)
  clear ha
  go_wp2_with fail
  first | go_end0 | ((try simp only [Exit.inBlock, Exit.then]); refine bodyPost_ret (results_none rfl _ _ _) rfl ?_)
  refine ⟨rfl, vn, Aft.start HBX.out HXB.out ?_⟩
  have q := HA.out
  (try simp only [List.append_assoc] at q)
  rw [HT.out]
  exact q
theorem writeStmt_n : ∀ (m : Nat) (x : S), S.sz x < m → okS x = true → WSt x
  | 0, _, h, _ => absurd h (by omega)
  | m + 1, x, hm, hok => by
    rcases okS_kind hok with h | h | h
    · cases ht : x.typed
      · exact writeStmt_1u x h.1 hok ht
      · exact writeStmt_1t x h.1 hok ht
    · exact writeStmt_2 x h.1 hok
    · exact writeStmt_3 x h.1 hok (writeBody_c x.body (fun i u hu => writeStmt_n m u (by have := S.sz_arg hu; omega) (all_at h.2.2.2.2.2.2.2 hu)))
theorem writeStmt_c (x : S) (hok : okS x = true) : WSt x := writeStmt_n _ x (Nat.lt_succ_self _) hok
theorem writeBody_ok (A : List S) (hok : A.all okS = true) : WSs A := writeBody_c A (fun i u hu => writeStmt_c u (all_at hok hu))
end Go.Proofs.YtcheigpejbmaoaaDoor
