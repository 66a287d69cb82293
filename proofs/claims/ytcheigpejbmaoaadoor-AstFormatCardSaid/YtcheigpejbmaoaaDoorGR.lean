/- Rt2 Rt3, merged. -/
import Derived.Test.YtcheigpejbmaoaaDoorRt1
/- Texts of expressions: the document; operators of level 9, negations. Printed by gen/rt1.py. -/
namespace Go.Proofs.YtcheigpejbmaoaaDoor
open Go.RowKit
set_option maxRecDepth 100000 in
set_option maxHeartbeats 8000000 in
theorem RText_1 (e : E) (hop : e.op = 1) (hR : ∀ (i : Nat) x, e.args[i]? = some x → RT x) (hv : e.val < 18446744073709551616) (w : World) (he : InE w e) : Calls Tryd.prog 53 #[e.v] w fun r w' => r = .returned (.string ⟨(txB e).toArray⟩) ∧ Ext w w' := by
  have WR := Lib.hid hR
  have hL := he.l
  have HT := txB_eq e
  unfold E.v
  obtain ⟨op, hop2⟩ : ∃ q, q = e.op := ⟨_, rfl⟩
  obtain ⟨ev, hev⟩ : ∃ q, q = e.val := ⟨_, rfl⟩
  obtain ⟨s, hs⟩ : ∃ q, q = e.name := ⟨_, rfl⟩
  obtain ⟨a, ha⟩ : ∃ q, q = e.a := ⟨_, rfl⟩
  obtain ⟨c, hc⟩ : ∃ q, q = e.cap := ⟨_, rfl⟩
  obtain ⟨A, hA⟩ : ∃ q, q = e.args := ⟨_, rfl⟩
  obtain ⟨n, hn⟩ : ∃ q, q = A.length := ⟨_, rfl⟩
  rw [← ha, ← hA] at hL
  rw [← hA] at WR
  rw [← hop2, ← hev, ← hs, ← hA] at HT
  rw [← hop2, ← hev, ← hs, ← ha, ← hc, ← hA, ← hn]
  rw [← hop2] at hop
  rw [← hev] at hv
  have DC := fun w' => Digits_c ev hv w'
  clear hop2 hev hs ha hc hA hn he hR hL WR
  subst hop
  unfold asm at HT
  rw [if_pos rfl] at HT
  obtain ⟨Y, hY⟩ : ∃ Y : ByteArray, Y = ⟨(Lib.decDigits ev).toArray⟩ := ⟨_, rfl⟩
  simp only [← hY] at DC
  rw [← hY] at HT
  replace DC := Lib.hid DC
  clear hY hv
  obtain ⟨TT, hTT⟩ : ∃ q : ByteArray, q = ⟨(txB e).toArray⟩ := ⟨_, rfl⟩
  have HTT : Hid (TT = Y) := Lib.hid (by
    rw [hTT]
    refine baEq ((mkL _).trans (HT.trans ?_))
    first | rfl | (simp only [baApp, mkL]; done) | (simp only [baApp, mkL]; simp))
  rw [← hTT]
  clear hTT HT
  go_enter Tryd.func53, Tryd.ntmps53
  go_wp2_with fail
  refine (DC.out _).mono ?_; rintro e1 w1 ⟨rfl, x1⟩
  have X := x1.box
  clear x1
  go_wp2_with fail
  go_ret
  exact ⟨by rw [HTT.out]; rfl, X⟩
set_option maxRecDepth 100000 in
set_option maxHeartbeats 8000000 in
theorem RText_2 (e : E) (hop : e.op = 2) (hR : ∀ (i : Nat) x, e.args[i]? = some x → RT x) (w : World) (he : InE w e) : Calls Tryd.prog 53 #[e.v] w fun r w' => r = .returned (.string ⟨(txB e).toArray⟩) ∧ Ext w w' := by
  have WR := Lib.hid hR
  have hL := he.l
  have HT := txB_eq e
  unfold E.v
  obtain ⟨op, hop2⟩ : ∃ q, q = e.op := ⟨_, rfl⟩
  obtain ⟨ev, hev⟩ : ∃ q, q = e.val := ⟨_, rfl⟩
  obtain ⟨s, hs⟩ : ∃ q, q = e.name := ⟨_, rfl⟩
  obtain ⟨a, ha⟩ : ∃ q, q = e.a := ⟨_, rfl⟩
  obtain ⟨c, hc⟩ : ∃ q, q = e.cap := ⟨_, rfl⟩
  obtain ⟨A, hA⟩ : ∃ q, q = e.args := ⟨_, rfl⟩
  obtain ⟨n, hn⟩ : ∃ q, q = A.length := ⟨_, rfl⟩
  rw [← ha, ← hA] at hL
  rw [← hA] at WR
  rw [← hop2, ← hev, ← hs, ← hA] at HT
  rw [← hop2, ← hev, ← hs, ← ha, ← hc, ← hA, ← hn]
  rw [← hop2] at hop
  clear hop2 hev hs ha hc hA hn he hR hL WR
  subst hop
  unfold asm at HT
  rw [if_neg (by decide), if_pos rfl] at HT
  obtain ⟨TT, hTT⟩ : ∃ q : ByteArray, q = ⟨(txB e).toArray⟩ := ⟨_, rfl⟩
  have HTT : Hid (TT = s) := Lib.hid (by
    rw [hTT]
    refine baEq ((mkL _).trans (HT.trans ?_))
    first | rfl | (simp only [baApp, mkL]; done) | (simp only [baApp, mkL]; simp))
  rw [← hTT]
  clear hTT HT
  go_enter Tryd.func53, Tryd.ntmps53
  go_wp2_with fail
  go_ret
  exact ⟨by rw [HTT.out]; rfl, by first | exact Ext.refl _ | exact (Ext.refl _).alloc _⟩
set_option maxRecDepth 100000 in
set_option maxHeartbeats 8000000 in
theorem RText_3 (e : E) (hop : e.op = 3) (hR : ∀ (i : Nat) x, e.args[i]? = some x → RT x) (w : World) (he : InE w e) : Calls Tryd.prog 53 #[e.v] w fun r w' => r = .returned (.string ⟨(txB e).toArray⟩) ∧ Ext w w' := by
  have WR := Lib.hid hR
  have hL := he.l
  have HT := txB_eq e
  unfold E.v
  obtain ⟨op, hop2⟩ : ∃ q, q = e.op := ⟨_, rfl⟩
  obtain ⟨ev, hev⟩ : ∃ q, q = e.val := ⟨_, rfl⟩
  obtain ⟨s, hs⟩ : ∃ q, q = e.name := ⟨_, rfl⟩
  obtain ⟨a, ha⟩ : ∃ q, q = e.a := ⟨_, rfl⟩
  obtain ⟨c, hc⟩ : ∃ q, q = e.cap := ⟨_, rfl⟩
  obtain ⟨A, hA⟩ : ∃ q, q = e.args := ⟨_, rfl⟩
  obtain ⟨n, hn⟩ : ∃ q, q = A.length := ⟨_, rfl⟩
  rw [← ha, ← hA] at hL
  rw [← hA] at WR
  rw [← hop2, ← hev, ← hs, ← hA] at HT
  rw [← hop2, ← hev, ← hs, ← ha, ← hc, ← hA, ← hn]
  rw [← hop2] at hop
  clear hop2 hev hs ha hc hA hn he hR hL WR
  subst hop
  unfold asm at HT
  rw [if_neg (by decide), if_neg (by decide), if_pos rfl] at HT
  obtain ⟨TT, hTT⟩ : ∃ q : ByteArray, q = ⟨(txB e).toArray⟩ := ⟨_, rfl⟩
  have HTT : Hid (TT = ⟨#[116, 114, 117, 101]⟩) := Lib.hid (by
    rw [hTT]
    refine baEq ((mkL _).trans (HT.trans ?_))
    first | rfl | (simp only [baApp, mkL]; done) | (simp only [baApp, mkL]; simp))
  rw [← hTT]
  clear hTT HT
  go_enter Tryd.func53, Tryd.ntmps53
  go_wp2_with fail
  go_ret
  exact ⟨by rw [HTT.out]; rfl, by first | exact Ext.refl _ | exact (Ext.refl _).alloc _⟩
set_option maxRecDepth 100000 in
set_option maxHeartbeats 8000000 in
theorem RText_4 (e : E) (hop : e.op = 4) (hR : ∀ (i : Nat) x, e.args[i]? = some x → RT x) (w : World) (he : InE w e) : Calls Tryd.prog 53 #[e.v] w fun r w' => r = .returned (.string ⟨(txB e).toArray⟩) ∧ Ext w w' := by
  have WR := Lib.hid hR
  have hL := he.l
  have HT := txB_eq e
  unfold E.v
  obtain ⟨op, hop2⟩ : ∃ q, q = e.op := ⟨_, rfl⟩
  obtain ⟨ev, hev⟩ : ∃ q, q = e.val := ⟨_, rfl⟩
  obtain ⟨s, hs⟩ : ∃ q, q = e.name := ⟨_, rfl⟩
  obtain ⟨a, ha⟩ : ∃ q, q = e.a := ⟨_, rfl⟩
  obtain ⟨c, hc⟩ : ∃ q, q = e.cap := ⟨_, rfl⟩
  obtain ⟨A, hA⟩ : ∃ q, q = e.args := ⟨_, rfl⟩
  obtain ⟨n, hn⟩ : ∃ q, q = A.length := ⟨_, rfl⟩
  rw [← ha, ← hA] at hL
  rw [← hA] at WR
  rw [← hop2, ← hev, ← hs, ← hA] at HT
  rw [← hop2, ← hev, ← hs, ← ha, ← hc, ← hA, ← hn]
  rw [← hop2] at hop
  clear hop2 hev hs ha hc hA hn he hR hL WR
  subst hop
  unfold asm at HT
  rw [if_neg (by decide), if_neg (by decide), if_neg (by decide), if_pos rfl] at HT
  obtain ⟨TT, hTT⟩ : ∃ q : ByteArray, q = ⟨(txB e).toArray⟩ := ⟨_, rfl⟩
  have HTT : Hid (TT = ⟨#[102, 97, 108, 115, 101]⟩) := Lib.hid (by
    rw [hTT]
    refine baEq ((mkL _).trans (HT.trans ?_))
    first | rfl | (simp only [baApp, mkL]; done) | (simp only [baApp, mkL]; simp))
  rw [← hTT]
  clear hTT HT
  go_enter Tryd.func53, Tryd.ntmps53
  go_wp2_with fail
  go_ret
  exact ⟨by rw [HTT.out]; rfl, by first | exact Ext.refl _ | exact (Ext.refl _).alloc _⟩
set_option maxRecDepth 100000 in
set_option maxHeartbeats 8000000 in
theorem RText_5 (e : E) (hop : e.op = 5) (hR : ∀ (i : Nat) x, e.args[i]? = some x → RT x) (hC : (comF true (e.args.map txB)).length ≤ 24000) (hs0 : e.name.size ≤ 24000) (w : World) (he : InE w e) : Calls Tryd.prog 53 #[e.v] w fun r w' => r = .returned (.string ⟨(txB e).toArray⟩) ∧ Ext w w' := by
  have WR := Lib.hid hR
  have hL := he.l
  have HT := txB_eq e
  unfold E.v
  obtain ⟨op, hop2⟩ : ∃ q, q = e.op := ⟨_, rfl⟩
  obtain ⟨ev, hev⟩ : ∃ q, q = e.val := ⟨_, rfl⟩
  obtain ⟨s, hs⟩ : ∃ q, q = e.name := ⟨_, rfl⟩
  obtain ⟨a, ha⟩ : ∃ q, q = e.a := ⟨_, rfl⟩
  obtain ⟨c, hc⟩ : ∃ q, q = e.cap := ⟨_, rfl⟩
  obtain ⟨A, hA⟩ : ∃ q, q = e.args := ⟨_, rfl⟩
  obtain ⟨n, hn⟩ : ∃ q, q = A.length := ⟨_, rfl⟩
  rw [← ha, ← hA] at hL
  rw [← hA] at WR
  rw [← hop2, ← hev, ← hs, ← hA] at HT
  rw [← hop2, ← hev, ← hs, ← ha, ← hc, ← hA, ← hn]
  rw [← hop2] at hop
  rw [← hA] at hC
  rw [← hs] at hs0
  have HLA := Lib.hid hL
  have PC := fun w' h => commas_c A WR.out hC n hn.symm a c w' h
  obtain ⟨C, hCC⟩ : ∃ q : ByteArray, q = ⟨(comF true (A.map txB)).toArray⟩ := ⟨_, rfl⟩
  have sc : C.size ≤ 24000 := by rw [hCC, mkS]; exact hC
  have EC : comF true (A.map txB) = C.data.toList := by rw [hCC]
  simp only [← hCC] at PC
  clear hop2 hev hs ha hc hA he hR hL WR hCC hC
  subst hop
  unfold asm at HT
  rw [if_neg (by decide), if_neg (by decide), if_neg (by decide), if_neg (by decide), if_pos rfl, EC] at HT
  obtain ⟨TT, hTT⟩ : ∃ q : ByteArray, q = ⟨(txB e).toArray⟩ := ⟨_, rfl⟩
  have HTT : Hid (TT = s ++ ⟨#[40]⟩ ++ C ++ ⟨#[41]⟩) := Lib.hid (by
    rw [hTT]
    refine baEq ((mkL _).trans (HT.trans ?_))
    first | rfl | (simp only [baApp, mkL]; done) | (simp only [baApp, mkL]; simp))
  rw [← hTT]
  clear hTT HT
  have u0 : ¬ 9223372036854775807 < s.size + 1 := by omega
  have u1 : ¬ 9223372036854775807 < s.size + 1 + C.size := by omega
  have u2 : ¬ 9223372036854775807 < s.size + 1 + C.size + 1 := by omega
  replace PC := Lib.hid PC
  clear EC hn
  go_enter Tryd.func53, Tryd.ntmps53
  go_wp2_with fail
  obtain ⟨wb, hwb⟩ : ∃ q, q = w.alloc (.cells #[.int .i64 5, .int .u64 (ev : Int), .string s, .slice a n c] 44) := ⟨_, rfl⟩
  have c1 : wb.cell? ⟨w.heap.size, 1, none⟩ = some (.int .u64 (ev : Int)) := by rw [hwb]; simp
  have c2 : wb.cell? ⟨w.heap.size, 2, none⟩ = some (.string s) := by rw [hwb]; simp
  have c3 : wb.cell? ⟨w.heap.size, 3, none⟩ = some (.slice a n c) := by rw [hwb]; simp
  have X : Ext w wb := by rw [hwb]; exact (Ext.refl _).alloc _
  rw [← hwb]
  clear hwb
  refine region_factsL [[], [(0, 21)], [(1, 22)], [], [(3, 24)], [(4, 25)], [(2, 23), (5, 26)], [(6, 27)], [(7, 28)]] [some 21, some 22, some 23, some 24, some 25, some 26, some 27, some 28, some 2] [false, true, false, false, false, false, false, false, false, false, false, false, false, false, false, false, false, false, false, false, false, false, false, false, false, false, false, false, false, false, false, false, false, false, false, false, false, false, false, false, false, false, false, false, false, false, false, false, false, false, false, false, false, false, false, false, false, false, false, false, false, false, false, false, false, false, false, false, false, false, false, false, false, false, false, false, false, false, false, false, false, false, false, false, false, false, false, false, false, false, false, false, false, false, false, false, false, false, false, false, false, false, false, false, false, false, false, false, false, false, false, false, false, false, false, false, false, false, false, false, false, false, false, false, false, false, false, false, false, false, false, false, false, false, false, false, false, false, false, false, false, false, false, false, false, false, false, false, false, false] (by kernel_rfl) (by kernel_rfl) (by kernel_rfl) ?_
  dsimp only [maskL]
  with_reducible apply FromM.eq
  · intro w' hx; (try dsimp only [List.nil_append, List.cons_append, DepsL, DepsL1, setO, setN, favs, opsOf]); go_wp2; exact OpPostE.some _ rfl rfl (Ext.refl _) rfl
  with_reducible apply FromM.eq
  · intro w' hx; have c1x := hx.cell c1; have c2x := hx.cell c2; have c3x := hx.cell c3; (try dsimp only [List.nil_append, List.cons_append, DepsL, DepsL1, setO, setN, favs, opsOf]); go_wp2; exact OpPostE.some _ rfl rfl (Ext.refl _) rfl
  with_reducible apply FromM.eq
  · intro w' hx; (try dsimp only [List.nil_append, List.cons_append, DepsL, DepsL1, setO, setN, favs, opsOf]); go_wp2; exact OpPostE.some _ rfl rfl (Ext.refl _) rfl
  with_reducible apply FromM.eq
  · intro w' hx; (try dsimp only [List.nil_append, List.cons_append, DepsL, DepsL1, setO, setN, favs, opsOf]); go_wp2; exact OpPostE.some _ rfl rfl (Ext.refl _) rfl
  with_reducible apply FromM.eq
  · intro w' hx; have c1x := hx.cell c1; have c2x := hx.cell c2; have c3x := hx.cell c3; (try dsimp only [List.nil_append, List.cons_append, DepsL, DepsL1, setO, setN, favs, opsOf]); go_wp2; exact OpPostE.some _ rfl rfl (Ext.refl _) rfl
  with_reducible apply FromM.eq
  · intro w' hx; (try dsimp only [List.nil_append, List.cons_append, DepsL, DepsL1, setO, setN, favs, opsOf]); refine op_call 75 [.tmp 25] _ _ _ rfl rfl rfl rfl rfl rfl (fun _ _ => Tryd.call75 _ _) (PC.out _ (HLA.out.to (X.trans hx))) (fun e w2 h_ => ?_); obtain ⟨rfl, hb2⟩ := h_; exact ⟨_, rfl, hb2, rfl⟩
  with_reducible apply FromM.eq
  · intro w' hx; (try dsimp only [List.nil_append, List.cons_append, DepsL, DepsL1, setO, setN, favs, opsOf]); go_wp2; exact OpPostE.some _ rfl rfl (Ext.refl _) rfl
  with_reducible apply FromM.eq
  · intro w' hx; (try dsimp only [List.nil_append, List.cons_append, DepsL, DepsL1, setO, setN, favs, opsOf]); go_wp2; exact OpPostE.some _ rfl rfl (Ext.refl _) rfl
  with_reducible apply FromM.eq
  · intro w' hx; (try dsimp only [List.nil_append, List.cons_append, DepsL, DepsL1, setO, setN, favs, opsOf]); go_wp2; exact OpPostE.some _ rfl rfl (Ext.refl _) rfl
  with_reducible refine FromM.fin ?_
  intro w' hx
  (try dsimp only [List.nil_append, List.cons_append, EndL, DepsL1, setO, setN])
  replace X := X.trans hx
  clear hx c1 c2 c3
  go_wp2_with fail
  go_ret
  exact ⟨by rw [HTT.out]; rfl, X⟩
set_option maxRecDepth 100000 in
set_option maxHeartbeats 8000000 in
theorem RText_6 (e : E) (hop : e.op = 6) (hR : ∀ (i : Nat) x, e.args[i]? = some x → RT x) (hv : e.val < 18446744073709551616) (hC : (comF true (e.args.map txB)).length ≤ 24000) (w : World) (he : InE w e) : Calls Tryd.prog 53 #[e.v] w fun r w' => r = .returned (.string ⟨(txB e).toArray⟩) ∧ Ext w w' := by
  have WR := Lib.hid hR
  have hL := he.l
  have HT := txB_eq e
  unfold E.v
  obtain ⟨op, hop2⟩ : ∃ q, q = e.op := ⟨_, rfl⟩
  obtain ⟨ev, hev⟩ : ∃ q, q = e.val := ⟨_, rfl⟩
  obtain ⟨s, hs⟩ : ∃ q, q = e.name := ⟨_, rfl⟩
  obtain ⟨a, ha⟩ : ∃ q, q = e.a := ⟨_, rfl⟩
  obtain ⟨c, hc⟩ : ∃ q, q = e.cap := ⟨_, rfl⟩
  obtain ⟨A, hA⟩ : ∃ q, q = e.args := ⟨_, rfl⟩
  obtain ⟨n, hn⟩ : ∃ q, q = A.length := ⟨_, rfl⟩
  rw [← ha, ← hA] at hL
  rw [← hA] at WR
  rw [← hop2, ← hev, ← hs, ← hA] at HT
  rw [← hop2, ← hev, ← hs, ← ha, ← hc, ← hA, ← hn]
  rw [← hop2] at hop
  rw [← hA] at hC
  rw [← hev] at hv
  have DC := fun w' => Digits_c ev hv w'
  have hd := digits_le ev hv
  obtain ⟨Y, hY⟩ : ∃ Y : ByteArray, Y = ⟨(Lib.decDigits ev).toArray⟩ := ⟨_, rfl⟩
  have sy : Y.size ≤ 20 := by rw [hY, mkS]; exact hd
  have HLA := Lib.hid hL
  have PC := fun w' h => commas_c A WR.out hC n hn.symm a c w' h
  obtain ⟨C, hCC⟩ : ∃ q : ByteArray, q = ⟨(comF true (A.map txB)).toArray⟩ := ⟨_, rfl⟩
  have sc : C.size ≤ 24000 := by rw [hCC, mkS]; exact hC
  have EC : comF true (A.map txB) = C.data.toList := by rw [hCC]
  simp only [← hCC] at PC
  simp only [← hY] at DC
  replace DC := Lib.hid DC
  clear hop2 hev hs ha hc hA he hR hL WR hCC hC
  subst hop
  unfold asm at HT
  rw [if_neg (by decide), if_neg (by decide), if_neg (by decide), if_neg (by decide), if_neg (by decide), if_pos rfl, EC] at HT
  rw [← hY] at HT
  obtain ⟨TT, hTT⟩ : ∃ q : ByteArray, q = ⟨(txB e).toArray⟩ := ⟨_, rfl⟩
  have HTT : Hid (TT = (⟨#[104, 97, 115, 104, 40]⟩ : ByteArray) ++ Y ++ ⟨#[59, 32]⟩ ++ C ++ ⟨#[41]⟩) := Lib.hid (by
    rw [hTT]
    refine baEq ((mkL _).trans (HT.trans ?_))
    first | rfl | (simp only [baApp, mkL]; done) | (simp only [baApp, mkL]; simp))
  rw [← hTT]
  clear hTT HT
  have u0 : ¬ 9223372036854775807 < 5 + Y.size := by omega
  have u1 : ¬ 9223372036854775807 < 5 + Y.size + 2 := by omega
  have u2 : ¬ 9223372036854775807 < 5 + Y.size + 2 + C.size := by omega
  have u3 : ¬ 9223372036854775807 < 5 + Y.size + 2 + C.size + 1 := by omega
  replace PC := Lib.hid PC
  clear EC hn hd hY hv
  go_enter Tryd.func53, Tryd.ntmps53
  go_wp2_with fail
  obtain ⟨wb, hwb⟩ : ∃ q, q = w.alloc (.cells #[.int .i64 6, .int .u64 (ev : Int), .string s, .slice a n c] 44) := ⟨_, rfl⟩
  have c1 : wb.cell? ⟨w.heap.size, 1, none⟩ = some (.int .u64 (ev : Int)) := by rw [hwb]; simp
  have c2 : wb.cell? ⟨w.heap.size, 2, none⟩ = some (.string s) := by rw [hwb]; simp
  have c3 : wb.cell? ⟨w.heap.size, 3, none⟩ = some (.slice a n c) := by rw [hwb]; simp
  have X : Ext w wb := by rw [hwb]; exact (Ext.refl _).alloc _
  rw [← hwb]
  clear hwb
  refine region_factsL [[], [(0, 31)], [(1, 32)], [(2, 33)], [(3, 34)], [], [(5, 36)], [(6, 37)], [(4, 35), (7, 38)], [(8, 39)], [(9, 40)]] [some 31, some 32, some 33, some 34, some 35, some 36, some 37, some 38, some 39, some 40, some 2] [false, true, false, false, false, false, false, false, false, false, false, false, false, false, false, false, false, false, false, false, false, false, false, false, false, false, false, false, false, false, false, false, false, false, false, false, false, false, false, false, false, false, false, false, false, false, false, false, false, false, false, false, false, false, false, false, false, false, false, false, false, false, false, false, false, false, false, false, false, false, false, false, false, false, false, false, false, false, false, false, false, false, false, false, false, false, false, false, false, false, false, false, false, false, false, false, false, false, false, false, false, false, false, false, false, false, false, false, false, false, false, false, false, false, false, false, false, false, false, false, false, false, false, false, false, false, false, false, false, false, false, false, false, false, false, false, false, false, false, false, false, false, false, false, false, false, false, false, false, false] (by kernel_rfl) (by kernel_rfl) (by kernel_rfl) ?_
  dsimp only [maskL]
  with_reducible apply FromM.eq
  · intro w' hx; (try dsimp only [List.nil_append, List.cons_append, DepsL, DepsL1, setO, setN, favs, opsOf]); go_wp2; exact OpPostE.some _ rfl rfl (Ext.refl _) rfl
  with_reducible apply FromM.eq
  · intro w' hx; have c1x := hx.cell c1; have c2x := hx.cell c2; have c3x := hx.cell c3; (try dsimp only [List.nil_append, List.cons_append, DepsL, DepsL1, setO, setN, favs, opsOf]); go_wp2; exact OpPostE.some _ rfl rfl (Ext.refl _) rfl
  with_reducible apply FromM.eq
  · intro w' hx; (try dsimp only [List.nil_append, List.cons_append, DepsL, DepsL1, setO, setN, favs, opsOf]); refine op_call 46 [.tmp 32] _ _ _ rfl rfl rfl rfl rfl rfl (fun _ _ => Tryd.call46 _ _) (DC.out _) (fun e w2 h_ => ?_); obtain ⟨rfl, hb2⟩ := h_; exact ⟨_, rfl, hb2, rfl⟩
  with_reducible apply FromM.eq
  · intro w' hx; (try dsimp only [List.nil_append, List.cons_append, DepsL, DepsL1, setO, setN, favs, opsOf]); go_wp2; exact OpPostE.some _ rfl rfl (Ext.refl _) rfl
  with_reducible apply FromM.eq
  · intro w' hx; (try dsimp only [List.nil_append, List.cons_append, DepsL, DepsL1, setO, setN, favs, opsOf]); go_wp2; exact OpPostE.some _ rfl rfl (Ext.refl _) rfl
  with_reducible apply FromM.eq
  · intro w' hx; (try dsimp only [List.nil_append, List.cons_append, DepsL, DepsL1, setO, setN, favs, opsOf]); go_wp2; exact OpPostE.some _ rfl rfl (Ext.refl _) rfl
  with_reducible apply FromM.eq
  · intro w' hx; have c1x := hx.cell c1; have c2x := hx.cell c2; have c3x := hx.cell c3; (try dsimp only [List.nil_append, List.cons_append, DepsL, DepsL1, setO, setN, favs, opsOf]); go_wp2; exact OpPostE.some _ rfl rfl (Ext.refl _) rfl
  with_reducible apply FromM.eq
  · intro w' hx; (try dsimp only [List.nil_append, List.cons_append, DepsL, DepsL1, setO, setN, favs, opsOf]); refine op_call 75 [.tmp 37] _ _ _ rfl rfl rfl rfl rfl rfl (fun _ _ => Tryd.call75 _ _) (PC.out _ (HLA.out.to (X.trans hx))) (fun e w2 h_ => ?_); obtain ⟨rfl, hb2⟩ := h_; exact ⟨_, rfl, hb2, rfl⟩
  with_reducible apply FromM.eq
  · intro w' hx; (try dsimp only [List.nil_append, List.cons_append, DepsL, DepsL1, setO, setN, favs, opsOf]); go_wp2; exact OpPostE.some _ rfl rfl (Ext.refl _) rfl
  with_reducible apply FromM.eq
  · intro w' hx; (try dsimp only [List.nil_append, List.cons_append, DepsL, DepsL1, setO, setN, favs, opsOf]); go_wp2; exact OpPostE.some _ rfl rfl (Ext.refl _) rfl
  with_reducible apply FromM.eq
  · intro w' hx; (try dsimp only [List.nil_append, List.cons_append, DepsL, DepsL1, setO, setN, favs, opsOf]); go_wp2; exact OpPostE.some _ rfl rfl (Ext.refl _) rfl
  with_reducible refine FromM.fin ?_
  intro w' hx
  (try dsimp only [List.nil_append, List.cons_append, EndL, DepsL1, setO, setN])
  replace X := X.trans hx
  clear hx c1 c2 c3
  go_wp2_with fail
  go_ret
  exact ⟨by rw [HTT.out]; rfl, X⟩
set_option maxRecDepth 100000 in
set_option maxHeartbeats 8000000 in
theorem RText_7 (e : E) (hop : e.op = 7) (hR : ∀ (i : Nat) x, e.args[i]? = some x → RT x) (hC : (comF true (e.args.map txB)).length ≤ 24000) (w : World) (he : InE w e) : Calls Tryd.prog 53 #[e.v] w fun r w' => r = .returned (.string ⟨(txB e).toArray⟩) ∧ Ext w w' := by
  have WR := Lib.hid hR
  have hL := he.l
  have HT := txB_eq e
  unfold E.v
  obtain ⟨op, hop2⟩ : ∃ q, q = e.op := ⟨_, rfl⟩
  obtain ⟨ev, hev⟩ : ∃ q, q = e.val := ⟨_, rfl⟩
  obtain ⟨s, hs⟩ : ∃ q, q = e.name := ⟨_, rfl⟩
  obtain ⟨a, ha⟩ : ∃ q, q = e.a := ⟨_, rfl⟩
  obtain ⟨c, hc⟩ : ∃ q, q = e.cap := ⟨_, rfl⟩
  obtain ⟨A, hA⟩ : ∃ q, q = e.args := ⟨_, rfl⟩
  obtain ⟨n, hn⟩ : ∃ q, q = A.length := ⟨_, rfl⟩
  rw [← ha, ← hA] at hL
  rw [← hA] at WR
  rw [← hop2, ← hev, ← hs, ← hA] at HT
  rw [← hop2, ← hev, ← hs, ← ha, ← hc, ← hA, ← hn]
  rw [← hop2] at hop
  rw [← hA] at hC
  have HLA := Lib.hid hL
  have PC := fun w' h => commas_c A WR.out hC n hn.symm a c w' h
  obtain ⟨C, hCC⟩ : ∃ q : ByteArray, q = ⟨(comF true (A.map txB)).toArray⟩ := ⟨_, rfl⟩
  have sc : C.size ≤ 24000 := by rw [hCC, mkS]; exact hC
  have EC : comF true (A.map txB) = C.data.toList := by rw [hCC]
  simp only [← hCC] at PC
  clear hop2 hev hs ha hc hA he hR hL WR hCC hC
  subst hop
  unfold asm at HT
  rw [if_neg (by decide), if_neg (by decide), if_neg (by decide), if_neg (by decide), if_neg (by decide), if_neg (by decide), if_pos rfl, EC] at HT
  obtain ⟨TT, hTT⟩ : ∃ q : ByteArray, q = ⟨(txB e).toArray⟩ := ⟨_, rfl⟩
  have HTT : Hid (TT = (⟨#[91]⟩ : ByteArray) ++ C ++ ⟨#[93]⟩) := Lib.hid (by
    rw [hTT]
    refine baEq ((mkL _).trans (HT.trans ?_))
    first | rfl | (simp only [baApp, mkL]; done) | (simp only [baApp, mkL]; simp))
  rw [← hTT]
  clear hTT HT
  have u0 : ¬ 9223372036854775807 < 1 + C.size := by omega
  have u1 : ¬ 9223372036854775807 < 1 + C.size + 1 := by omega
  replace PC := Lib.hid PC
  clear EC hn
  go_enter Tryd.func53, Tryd.ntmps53
  go_wp2_with fail
  refine (PC.out _ (HLA.out.to ((Ext.refl _).alloc _))).mono ?_; rintro e1 w1 ⟨rfl, x1⟩
  have X := x1.box
  clear x1
  go_wp2_with fail
  go_ret
  exact ⟨by rw [HTT.out]; rfl, X⟩
set_option maxRecDepth 100000 in
set_option maxHeartbeats 8000000 in
theorem RText_9 (e : E) (hop : e.op = 9) (hlen0 : e.args.length = 1) (hR : ∀ (i : Nat) x, e.args[i]? = some x → RT x) (w : World) (he : InE w e) : Calls Tryd.prog 53 #[e.v] w fun r w' => r = .returned (.string ⟨(txB e).toArray⟩) ∧ Ext w w' := by
  have WR := Lib.hid hR
  have hL := he.l
  have HT := txB_eq e
  unfold E.v
  obtain ⟨op, hop2⟩ : ∃ q, q = e.op := ⟨_, rfl⟩
  obtain ⟨ev, hev⟩ : ∃ q, q = e.val := ⟨_, rfl⟩
  obtain ⟨s, hs⟩ : ∃ q, q = e.name := ⟨_, rfl⟩
  obtain ⟨a, ha⟩ : ∃ q, q = e.a := ⟨_, rfl⟩
  obtain ⟨c, hc⟩ : ∃ q, q = e.cap := ⟨_, rfl⟩
  obtain ⟨A, hA⟩ : ∃ q, q = e.args := ⟨_, rfl⟩
  obtain ⟨n, hn⟩ : ∃ q, q = A.length := ⟨_, rfl⟩
  rw [← ha, ← hA] at hL
  rw [← hA] at WR
  rw [← hop2, ← hev, ← hs, ← hA] at HT
  rw [← hop2, ← hev, ← hs, ← ha, ← hc, ← hA, ← hn]
  rw [← hop2] at hop
  have hn2 : A.length = 1 := by rw [hA]; exact hlen0
  have hnn : n = 1 := by rw [hn]; exact hn2
  obtain ⟨x0, hx0⟩ := getE (l := A) (i := 0) (by omega)
  obtain ⟨⟨ab, o, haa, k0, k1, k2, k3⟩, hin0⟩ := hL.at hx0
  subst haa
  have HK0 : Hid (∀ w', Ext w w' → w'.cell? ⟨ab, o, none⟩ = some (.int .i64 x0.op) ∧ w'.cell? ⟨ab, o + 1, none⟩ = some (.int .u64 (x0.val : Int)) ∧ w'.cell? ⟨ab, o + 2, none⟩ = some (.string x0.name) ∧ w'.cell? ⟨ab, o + 3, none⟩ = some (.slice x0.a x0.args.length x0.cap)) := Lib.hid (fun w' h => ⟨h.cell k0, h.cell k1, h.cell k2, h.cell k3⟩)
  clear k0 k1 k2 k3
  have HI0 := Lib.hid hin0
  have hr0 := WR.out 0 x0 hx0
  have HU0 : Hid ((A.map txB).getD 0 [] = txB x0) := Lib.hid (tAt_get hx0)
  have HO0 : Hid (oAt A 0 = x0.op) := Lib.hid (oAt_get hx0)
  clear hL
  subst hop
  subst hnn
  unfold asm at HT
  rw [if_neg (by decide), if_neg (by decide), if_neg (by decide), if_neg (by decide), if_neg (by decide), if_neg (by decide), if_neg (by decide), if_neg (by decide), if_pos rfl, HO0.out, HU0.out] at HT
  by_cases h9 : x0.op = 9
  · rw [if_pos h9] at HT
    have hp : par x0.op 8 (txB x0) = (⟨#[40]⟩ : ByteArray).data.toList ++ (txB x0 ++ (⟨#[41]⟩ : ByteArray).data.toList) := by unfold par; rw [h9]; rfl
    rw [hp] at HT
    have P0 := fun w' h => hr0.2 w' h
    obtain ⟨A0, hA0⟩ : ∃ Y : ByteArray, Y = ⟨(txB x0).toArray⟩ := ⟨_, rfl⟩
    have s0 : A0.size ≤ 24002 := by rw [hA0, mkS]; have := hr0.1; omega
    have D0 : txB x0 = A0.data.toList := by rw [hA0]
    simp only [← hA0] at P0
    unfold E.v at P0
    clear hA0
    rw [D0] at HT
    obtain ⟨TT, hTT⟩ : ∃ q : ByteArray, q = ⟨(txB e).toArray⟩ := ⟨_, rfl⟩
    have HTT : Hid (TT = (⟨#[45, 40]⟩ : ByteArray) ++ A0 ++ ⟨#[41]⟩) := Lib.hid (by
      rw [hTT]
      refine baEq ((mkL _).trans (HT.trans ?_))
      first | rfl | (simp only [baApp, mkL]; done) | (simp only [baApp, mkL]; simp))
    rw [← hTT]
    clear hTT HT
    have u0 : ¬ 9223372036854775807 < 2 + A0.size := by omega
    have u1 : ¬ 9223372036854775807 < 2 + A0.size + 1 := by omega
    have tx : (x0.op == 9) = true := beq_iff_eq.2 h9
    clear D0 hr0 HU0 HO0 h9 hop2 hev hs ha hc hA hn he hR WR hlen0 hn2 hp
    obtain ⟨x0o, hho⟩ : ∃ q, q = x0.op := ⟨_, rfl⟩
    simp only [← hho] at HK0 P0 tx
    obtain ⟨x0v, hhv⟩ : ∃ q, q = x0.val := ⟨_, rfl⟩
    simp only [← hhv] at HK0 P0 tx
    obtain ⟨x0n, hhn⟩ : ∃ q, q = x0.name := ⟨_, rfl⟩
    simp only [← hhn] at HK0 P0 tx
    obtain ⟨x0a, hha⟩ : ∃ q, q = x0.a := ⟨_, rfl⟩
    simp only [← hha] at HK0 P0 tx
    obtain ⟨x0l, hhl⟩ : ∃ q, q = x0.args.length := ⟨_, rfl⟩
    simp only [← hhl] at HK0 P0 tx
    obtain ⟨x0c, hhc⟩ : ∃ q, q = x0.cap := ⟨_, rfl⟩
    simp only [← hhc] at HK0 P0 tx
    clear hho hhv hhn hha hhl hhc hx0 hin0
    replace P0 := Lib.hid P0
    go_enter Tryd.func53, Tryd.ntmps53
    obtain ⟨k0, k1, k2, k3⟩ := HK0.out (w.alloc (.cells #[.int .i64 9, .int .u64 (ev : Int), .string s, .slice (some ⟨ab, o, none⟩) 1 c] 44)) ((Ext.refl _).alloc _)
    go_wp2_with fail
    refine (P0.out _ (HI0.out.to ((Ext.refl _).alloc _))).mono ?_; rintro e1 w1 ⟨rfl, x1⟩
    have X := x1.box
    clear x1 k0 k1 k2 k3
    go_wp2_with fail
    go_ret
    exact ⟨by rw [HTT.out]; rfl, X⟩
  · rw [if_neg h9] at HT
    have P0 := fun w' h => operand_c x0 hr0 7 w' h
    obtain ⟨A0, hA0⟩ : ∃ Y : ByteArray, Y = ⟨(par x0.op 7 (txB x0)).toArray⟩ := ⟨_, rfl⟩
    have s0 : A0.size ≤ 24002 := by rw [hA0, mkS]; have := par_len x0.op 7 (txB x0); have := hr0.1; omega
    have D0 : par x0.op 7 (txB x0) = A0.data.toList := by rw [hA0]
    simp only [← hA0] at P0
    unfold E.v at P0
    clear hA0
    rw [D0] at HT
    obtain ⟨TT, hTT⟩ : ∃ q : ByteArray, q = ⟨(txB e).toArray⟩ := ⟨_, rfl⟩
    have HTT : Hid (TT = (⟨#[45]⟩ : ByteArray) ++ A0) := Lib.hid (by
      rw [hTT]
      refine baEq ((mkL _).trans (HT.trans ?_))
      first | rfl | (simp only [baApp, mkL]; done) | (simp only [baApp, mkL]; simp))
    rw [← hTT]
    clear hTT HT
    have u0 : ¬ 9223372036854775807 < 1 + A0.size := by omega
    have tx : (x0.op == 9) = false := beq_eq_false_iff_ne.2 h9
    clear D0 hr0 HU0 HO0 h9 hop2 hev hs ha hc hA hn he hR WR hlen0 hn2
    obtain ⟨x0o, hho⟩ : ∃ q, q = x0.op := ⟨_, rfl⟩
    simp only [← hho] at HK0 P0 tx
    obtain ⟨x0v, hhv⟩ : ∃ q, q = x0.val := ⟨_, rfl⟩
    simp only [← hhv] at HK0 P0 tx
    obtain ⟨x0n, hhn⟩ : ∃ q, q = x0.name := ⟨_, rfl⟩
    simp only [← hhn] at HK0 P0 tx
    obtain ⟨x0a, hha⟩ : ∃ q, q = x0.a := ⟨_, rfl⟩
    simp only [← hha] at HK0 P0 tx
    obtain ⟨x0l, hhl⟩ : ∃ q, q = x0.args.length := ⟨_, rfl⟩
    simp only [← hhl] at HK0 P0 tx
    obtain ⟨x0c, hhc⟩ : ∃ q, q = x0.cap := ⟨_, rfl⟩
    simp only [← hhc] at HK0 P0 tx
    clear hho hhv hhn hha hhl hhc hx0 hin0
    replace P0 := Lib.hid P0
    go_enter Tryd.func53, Tryd.ntmps53
    obtain ⟨k0, k1, k2, k3⟩ := HK0.out (w.alloc (.cells #[.int .i64 9, .int .u64 (ev : Int), .string s, .slice (some ⟨ab, o, none⟩) 1 c] 44)) ((Ext.refl _).alloc _)
    go_wp2_with fail
    refine (P0.out _ (HI0.out.to ((Ext.refl _).alloc _))).mono ?_; rintro e1 w1 ⟨rfl, x1⟩
    have X := x1.box
    clear x1 k0 k1 k2 k3
    go_wp2_with fail
    go_ret
    exact ⟨by rw [HTT.out]; rfl, X⟩
set_option maxRecDepth 100000 in
set_option maxHeartbeats 8000000 in
theorem RText_10 (e : E) (hop : e.op = 10) (hlen0 : e.args.length = 1) (hR : ∀ (i : Nat) x, e.args[i]? = some x → RT x) (w : World) (he : InE w e) : Calls Tryd.prog 53 #[e.v] w fun r w' => r = .returned (.string ⟨(txB e).toArray⟩) ∧ Ext w w' := by
  have WR := Lib.hid hR
  have hL := he.l
  have HT := txB_eq e
  unfold E.v
  obtain ⟨op, hop2⟩ : ∃ q, q = e.op := ⟨_, rfl⟩
  obtain ⟨ev, hev⟩ : ∃ q, q = e.val := ⟨_, rfl⟩
  obtain ⟨s, hs⟩ : ∃ q, q = e.name := ⟨_, rfl⟩
  obtain ⟨a, ha⟩ : ∃ q, q = e.a := ⟨_, rfl⟩
  obtain ⟨c, hc⟩ : ∃ q, q = e.cap := ⟨_, rfl⟩
  obtain ⟨A, hA⟩ : ∃ q, q = e.args := ⟨_, rfl⟩
  obtain ⟨n, hn⟩ : ∃ q, q = A.length := ⟨_, rfl⟩
  rw [← ha, ← hA] at hL
  rw [← hA] at WR
  rw [← hop2, ← hev, ← hs, ← hA] at HT
  rw [← hop2, ← hev, ← hs, ← ha, ← hc, ← hA, ← hn]
  rw [← hop2] at hop
  have hn2 : A.length = 1 := by rw [hA]; exact hlen0
  have hnn : n = 1 := by rw [hn]; exact hn2
  obtain ⟨x0, hx0⟩ := getE (l := A) (i := 0) (by omega)
  obtain ⟨⟨ab, o, haa, k0, k1, k2, k3⟩, hin0⟩ := hL.at hx0
  subst haa
  have HK0 : Hid (∀ w', Ext w w' → w'.cell? ⟨ab, o, none⟩ = some (.int .i64 x0.op) ∧ w'.cell? ⟨ab, o + 1, none⟩ = some (.int .u64 (x0.val : Int)) ∧ w'.cell? ⟨ab, o + 2, none⟩ = some (.string x0.name) ∧ w'.cell? ⟨ab, o + 3, none⟩ = some (.slice x0.a x0.args.length x0.cap)) := Lib.hid (fun w' h => ⟨h.cell k0, h.cell k1, h.cell k2, h.cell k3⟩)
  clear k0 k1 k2 k3
  have HI0 := Lib.hid hin0
  have hr0 := WR.out 0 x0 hx0
  have HU0 : Hid ((A.map txB).getD 0 [] = txB x0) := Lib.hid (tAt_get hx0)
  have HO0 : Hid (oAt A 0 = x0.op) := Lib.hid (oAt_get hx0)
  clear hL
  subst hop
  subst hnn
  have P0 := fun w' h => operand_c x0 hr0 7 w' h
  obtain ⟨A0, hA0⟩ : ∃ Y : ByteArray, Y = ⟨(par x0.op 7 (txB x0)).toArray⟩ := ⟨_, rfl⟩
  have s0 : A0.size ≤ 24002 := by rw [hA0, mkS]; have := par_len x0.op 7 (txB x0); have := hr0.1; omega
  have D0 : par x0.op 7 (txB x0) = A0.data.toList := by rw [hA0]
  simp only [← hA0] at P0
  unfold E.v at P0
  clear hA0
  unfold asm at HT
  rw [if_neg (by decide), if_neg (by decide), if_neg (by decide), if_neg (by decide), if_neg (by decide), if_neg (by decide), if_neg (by decide), if_neg (by decide), if_neg (by decide), if_pos rfl, HO0.out, HU0.out, D0] at HT
  obtain ⟨TT, hTT⟩ : ∃ q : ByteArray, q = ⟨(txB e).toArray⟩ := ⟨_, rfl⟩
  have HTT : Hid (TT = (⟨#[110, 111, 116, 32]⟩ : ByteArray) ++ A0) := Lib.hid (by
    rw [hTT]
    refine baEq ((mkL _).trans (HT.trans ?_))
    first | rfl | (simp only [baApp, mkL]; done) | (simp only [baApp, mkL]; simp))
  rw [← hTT]
  clear hTT HT
  have u0 : ¬ 9223372036854775807 < 4 + A0.size := by omega
  clear D0 hr0 HU0 HO0 hop2 hev hs ha hc hA hn he hR WR hlen0 hn2
  obtain ⟨x0o, hho⟩ : ∃ q, q = x0.op := ⟨_, rfl⟩
  simp only [← hho] at HK0 P0
  obtain ⟨x0v, hhv⟩ : ∃ q, q = x0.val := ⟨_, rfl⟩
  simp only [← hhv] at HK0 P0
  obtain ⟨x0n, hhn⟩ : ∃ q, q = x0.name := ⟨_, rfl⟩
  simp only [← hhn] at HK0 P0
  obtain ⟨x0a, hha⟩ : ∃ q, q = x0.a := ⟨_, rfl⟩
  simp only [← hha] at HK0 P0
  obtain ⟨x0l, hhl⟩ : ∃ q, q = x0.args.length := ⟨_, rfl⟩
  simp only [← hhl] at HK0 P0
  obtain ⟨x0c, hhc⟩ : ∃ q, q = x0.cap := ⟨_, rfl⟩
  simp only [← hhc] at HK0 P0
  clear hho hhv hhn hha hhl hhc hx0 hin0
  replace P0 := Lib.hid P0
  go_enter Tryd.func53, Tryd.ntmps53
  obtain ⟨k0, k1, k2, k3⟩ := HK0.out (w.alloc (.cells #[.int .i64 10, .int .u64 (ev : Int), .string s, .slice (some ⟨ab, o, none⟩) 1 c] 44)) ((Ext.refl _).alloc _)
  go_wp2_with fail
  refine (P0.out _ (HI0.out.to ((Ext.refl _).alloc _))).mono ?_; rintro e1 w1 ⟨rfl, x1⟩
  have X := x1.box
  clear x1 k0 k1 k2 k3
  go_wp2_with fail
  go_ret
  exact ⟨by rw [HTT.out]; rfl, X⟩
end Go.Proofs.YtcheigpejbmaoaaDoor

/- Texts of expressions: the document. Printed by gen/rt1.py. -/
namespace Go.Proofs.YtcheigpejbmaoaaDoor
open Go.RowKit
set_option maxRecDepth 100000 in
set_option maxHeartbeats 8000000 in
theorem RText_8 (e : E) (hop : e.op = 8) (hlen0 : e.args.length = 2) (hR : ∀ (i : Nat) x, e.args[i]? = some x → RT x) (w : World) (he : InE w e) : Calls Tryd.prog 53 #[e.v] w fun r w' => r = .returned (.string ⟨(txB e).toArray⟩) ∧ Ext w w' := by
  have WR := Lib.hid hR
  have hL := he.l
  have HT := txB_eq e
  unfold E.v
  obtain ⟨op, hop2⟩ : ∃ q, q = e.op := ⟨_, rfl⟩
  obtain ⟨ev, hev⟩ : ∃ q, q = e.val := ⟨_, rfl⟩
  obtain ⟨s, hs⟩ : ∃ q, q = e.name := ⟨_, rfl⟩
  obtain ⟨a, ha⟩ : ∃ q, q = e.a := ⟨_, rfl⟩
  obtain ⟨c, hc⟩ : ∃ q, q = e.cap := ⟨_, rfl⟩
  obtain ⟨A, hA⟩ : ∃ q, q = e.args := ⟨_, rfl⟩
  obtain ⟨n, hn⟩ : ∃ q, q = A.length := ⟨_, rfl⟩
  rw [← ha, ← hA] at hL
  rw [← hA] at WR
  rw [← hop2, ← hev, ← hs, ← hA] at HT
  rw [← hop2, ← hev, ← hs, ← ha, ← hc, ← hA, ← hn]
  rw [← hop2] at hop
  have hn2 : A.length = 2 := by rw [hA]; exact hlen0
  have hnn : n = 2 := by rw [hn]; exact hn2
  obtain ⟨x0, hx0⟩ := getE (l := A) (i := 0) (by omega)
  obtain ⟨⟨ab, o, haa, k0, k1, k2, k3⟩, hin0⟩ := hL.at hx0
  subst haa
  have HK0 : Hid (∀ w', Ext w w' → w'.cell? ⟨ab, o, none⟩ = some (.int .i64 x0.op) ∧ w'.cell? ⟨ab, o + 1, none⟩ = some (.int .u64 (x0.val : Int)) ∧ w'.cell? ⟨ab, o + 2, none⟩ = some (.string x0.name) ∧ w'.cell? ⟨ab, o + 3, none⟩ = some (.slice x0.a x0.args.length x0.cap)) := Lib.hid (fun w' h => ⟨h.cell k0, h.cell k1, h.cell k2, h.cell k3⟩)
  clear k0 k1 k2 k3
  have HI0 := Lib.hid hin0
  have hr0 := WR.out 0 x0 hx0
  have HU0 : Hid ((A.map txB).getD 0 [] = txB x0) := Lib.hid (tAt_get hx0)
  have HO0 : Hid (oAt A 0 = x0.op) := Lib.hid (oAt_get hx0)
  obtain ⟨x1, hx1⟩ := getE (l := A) (i := 1) (by omega)
  obtain ⟨⟨ab2, o2, haa, j0, j1, j2, j3⟩, hin1⟩ := hL.at hx1
  obtain ⟨rfl, rfl⟩ : ab = ab2 ∧ o = o2 := by simpa using haa
  clear haa
  have HK1 : Hid (∀ w', Ext w w' → w'.cell? ⟨ab, o + 4, none⟩ = some (.int .i64 x1.op) ∧ w'.cell? ⟨ab, o + 5, none⟩ = some (.int .u64 (x1.val : Int)) ∧ w'.cell? ⟨ab, o + 6, none⟩ = some (.string x1.name) ∧ w'.cell? ⟨ab, o + 7, none⟩ = some (.slice x1.a x1.args.length x1.cap)) := Lib.hid (fun w' h => ⟨h.cell j0, h.cell j1, h.cell j2, h.cell j3⟩)
  clear j0 j1 j2 j3
  have HI1 := Lib.hid hin1
  have hr1 := WR.out 1 x1 hx1
  have HU1 : Hid ((A.map txB).getD 1 [] = txB x1) := Lib.hid (tAt_get hx1)
  have HO1 : Hid (oAt A 1 = x1.op) := Lib.hid (oAt_get hx1)
  clear hL
  subst hop
  subst hnn
  have P0 := fun w' h => operand_c x0 hr0 8 w' h
  obtain ⟨A0, hA0⟩ : ∃ Y : ByteArray, Y = ⟨(par x0.op 8 (txB x0)).toArray⟩ := ⟨_, rfl⟩
  have s0 : A0.size ≤ 24002 := by rw [hA0, mkS]; have := par_len x0.op 8 (txB x0); have := hr0.1; omega
  have D0 : par x0.op 8 (txB x0) = A0.data.toList := by rw [hA0]
  simp only [← hA0] at P0
  unfold E.v at P0
  clear hA0
  have P1 := fun w' h => hr1.2 w' h
  obtain ⟨A1, hA1⟩ : ∃ Y : ByteArray, Y = ⟨(txB x1).toArray⟩ := ⟨_, rfl⟩
  have s1 : A1.size ≤ 24002 := by rw [hA1, mkS]; have := hr1.1; omega
  have D1 : txB x1 = A1.data.toList := by rw [hA1]
  simp only [← hA1] at P1
  unfold E.v at P1
  clear hA1
  unfold asm at HT
  rw [if_neg (by decide), if_neg (by decide), if_neg (by decide), if_neg (by decide), if_neg (by decide), if_neg (by decide), if_neg (by decide), if_pos rfl, HO0.out, HU0.out, HO1.out, HU1.out, par_one, D0, D1] at HT
  obtain ⟨TT, hTT⟩ : ∃ q : ByteArray, q = ⟨(txB e).toArray⟩ := ⟨_, rfl⟩
  have HTT : Hid (TT = A0 ++ ⟨#[91]⟩ ++ A1 ++ ⟨#[93]⟩) := Lib.hid (by
    rw [hTT]
    refine baEq ((mkL _).trans (HT.trans ?_))
    first | rfl | (simp only [baApp, mkL]; done) | (simp only [baApp, mkL]; simp))
  rw [← hTT]
  clear hTT HT
  have u0 : ¬ 9223372036854775807 < A0.size + 1 := by omega
  have u1 : ¬ 9223372036854775807 < A0.size + 1 + A1.size := by omega
  have u2 : ¬ 9223372036854775807 < A0.size + 1 + A1.size + 1 := by omega
  clear D0 hr0 HU0 HO0 D1 hr1 HU1 HO1 hop2 hev hs ha hc hA hn he hR WR hlen0 hn2
  obtain ⟨x0o, hho⟩ : ∃ q, q = x0.op := ⟨_, rfl⟩
  simp only [← hho] at HK0 P0
  obtain ⟨x0v, hhv⟩ : ∃ q, q = x0.val := ⟨_, rfl⟩
  simp only [← hhv] at HK0 P0
  obtain ⟨x0n, hhn⟩ : ∃ q, q = x0.name := ⟨_, rfl⟩
  simp only [← hhn] at HK0 P0
  obtain ⟨x0a, hha⟩ : ∃ q, q = x0.a := ⟨_, rfl⟩
  simp only [← hha] at HK0 P0
  obtain ⟨x0l, hhl⟩ : ∃ q, q = x0.args.length := ⟨_, rfl⟩
  simp only [← hhl] at HK0 P0
  obtain ⟨x0c, hhc⟩ : ∃ q, q = x0.cap := ⟨_, rfl⟩
  simp only [← hhc] at HK0 P0
  clear hho hhv hhn hha hhl hhc hx0 hin0
  obtain ⟨x1o, hho⟩ : ∃ q, q = x1.op := ⟨_, rfl⟩
  simp only [← hho] at HK1 P1
  obtain ⟨x1v, hhv⟩ : ∃ q, q = x1.val := ⟨_, rfl⟩
  simp only [← hhv] at HK1 P1
  obtain ⟨x1n, hhn⟩ : ∃ q, q = x1.name := ⟨_, rfl⟩
  simp only [← hhn] at HK1 P1
  obtain ⟨x1a, hha⟩ : ∃ q, q = x1.a := ⟨_, rfl⟩
  simp only [← hha] at HK1 P1
  obtain ⟨x1l, hhl⟩ : ∃ q, q = x1.args.length := ⟨_, rfl⟩
  simp only [← hhl] at HK1 P1
  obtain ⟨x1c, hhc⟩ : ∃ q, q = x1.cap := ⟨_, rfl⟩
  simp only [← hhc] at HK1 P1
  clear hho hhv hhn hha hhl hhc hx1 hin1
  replace P0 := Lib.hid P0
  replace P1 := Lib.hid P1
  go_enter Tryd.func53, Tryd.ntmps53
  go_wp2_with fail
  obtain ⟨wb, hwb⟩ : ∃ q, q = w.alloc (.cells #[.int .i64 8, .int .u64 (ev : Int), .string s, .slice (some ⟨ab, o, none⟩) 2 c] 44) := ⟨_, rfl⟩
  have c3 : wb.cell? ⟨w.heap.size, 3, none⟩ = some (.slice (some ⟨ab, o, none⟩) 2 c) := by rw [hwb]; simp
  have X : Ext w wb := by rw [hwb]; exact (Ext.refl _).alloc _
  rw [← hwb]
  clear hwb
  obtain ⟨k0, k1, k2, k3⟩ := HK0.out _ X
  obtain ⟨j0, j1, j2, j3⟩ := HK1.out _ X
  refine region_factsL [[], [(0, 50)], [(1, 51)], [(2, 52)], [(3, 53)], [(4, 54)], [], [(6, 56)], [(7, 57)], [(8, 58)], [(9, 59)], [(5, 55), (10, 60)], [(11, 61)], [(12, 62)]] [some 50, some 51, some 52, some 53, some 54, some 55, some 56, some 57, some 58, some 59, some 60, some 61, some 62, some 2] [false, true, false, false, false, false, false, false, false, false, false, false, false, false, false, false, false, false, false, false, false, false, false, false, false, false, false, false, false, false, false, false, false, false, false, false, false, false, false, false, false, false, false, false, false, false, false, false, false, false, false, false, false, false, false, false, false, false, false, false, false, false, false, false, false, false, false, false, false, false, false, false, false, false, false, false, false, false, false, false, false, false, false, false, false, false, false, false, false, false, false, false, false, false, false, false, false, false, false, false, false, false, false, false, false, false, false, false, false, false, false, false, false, false, false, false, false, false, false, false, false, false, false, false, false, false, false, false, false, false, false, false, false, false, false, false, false, false, false, false, false, false, false, false, false, false, false, false, false, false] (by kernel_rfl) (by kernel_rfl) (by kernel_rfl) ?_
  dsimp only [maskL]
  with_reducible apply FromM.eq
  · intro w' hx; (try dsimp only [List.nil_append, List.cons_append, DepsL, DepsL1, setO, setN, favs, opsOf]); go_wp2; exact OpPostE.some _ rfl rfl (Ext.refl _) rfl
  with_reducible apply FromM.eq
  · intro w' hx; have c3x := hx.cell c3; have k0x := hx.cell k0; have k1x := hx.cell k1; have k2x := hx.cell k2; have k3x := hx.cell k3; have j0x := hx.cell j0; have j1x := hx.cell j1; have j2x := hx.cell j2; have j3x := hx.cell j3; (try dsimp only [List.nil_append, List.cons_append, DepsL, DepsL1, setO, setN, favs, opsOf]); go_wp2; exact OpPostE.some _ rfl rfl (Ext.refl _) rfl
  with_reducible apply FromM.eq
  · intro w' hx; (try dsimp only [List.nil_append, List.cons_append, DepsL, DepsL1, setO, setN, favs, opsOf]); go_wp2; exact OpPostE.some _ rfl rfl (Ext.refl _) rfl
  with_reducible apply FromM.eq
  · intro w' hx; have c3x := hx.cell c3; have k0x := hx.cell k0; have k1x := hx.cell k1; have k2x := hx.cell k2; have k3x := hx.cell k3; have j0x := hx.cell j0; have j1x := hx.cell j1; have j2x := hx.cell j2; have j3x := hx.cell j3; (try dsimp only [List.nil_append, List.cons_append, DepsL, DepsL1, setO, setN, favs, opsOf]); go_wp2; exact OpPostE.some _ rfl rfl (Ext.refl _) rfl
  with_reducible apply FromM.eq
  · intro w' hx; (try dsimp only [List.nil_append, List.cons_append, DepsL, DepsL1, setO, setN, favs, opsOf]); refine op_call 76 [.tmp 53, .const (.int .i64 8)] _ _ _ rfl rfl rfl rfl rfl rfl (fun _ _ => Tryd.call76 _ _) (P0.out _ (HI0.out.to (X.trans hx))) (fun e w2 h_ => ?_); obtain ⟨rfl, hb2⟩ := h_; exact ⟨_, rfl, hb2, rfl⟩
  with_reducible apply FromM.eq
  · intro w' hx; (try dsimp only [List.nil_append, List.cons_append, DepsL, DepsL1, setO, setN, favs, opsOf]); go_wp2; exact OpPostE.some _ rfl rfl (Ext.refl _) rfl
  with_reducible apply FromM.eq
  · intro w' hx; (try dsimp only [List.nil_append, List.cons_append, DepsL, DepsL1, setO, setN, favs, opsOf]); go_wp2; exact OpPostE.some _ rfl rfl (Ext.refl _) rfl
  with_reducible apply FromM.eq
  · intro w' hx; have c3x := hx.cell c3; have k0x := hx.cell k0; have k1x := hx.cell k1; have k2x := hx.cell k2; have k3x := hx.cell k3; have j0x := hx.cell j0; have j1x := hx.cell j1; have j2x := hx.cell j2; have j3x := hx.cell j3; (try dsimp only [List.nil_append, List.cons_append, DepsL, DepsL1, setO, setN, favs, opsOf]); go_wp2; exact OpPostE.some _ rfl rfl (Ext.refl _) rfl
  with_reducible apply FromM.eq
  · intro w' hx; (try dsimp only [List.nil_append, List.cons_append, DepsL, DepsL1, setO, setN, favs, opsOf]); go_wp2; exact OpPostE.some _ rfl rfl (Ext.refl _) rfl
  with_reducible apply FromM.eq
  · intro w' hx; have c3x := hx.cell c3; have k0x := hx.cell k0; have k1x := hx.cell k1; have k2x := hx.cell k2; have k3x := hx.cell k3; have j0x := hx.cell j0; have j1x := hx.cell j1; have j2x := hx.cell j2; have j3x := hx.cell j3; (try dsimp only [List.nil_append, List.cons_append, DepsL, DepsL1, setO, setN, favs, opsOf]); go_wp2; exact OpPostE.some _ rfl rfl (Ext.refl _) rfl
  with_reducible apply FromM.eq
  · intro w' hx; (try dsimp only [List.nil_append, List.cons_append, DepsL, DepsL1, setO, setN, favs, opsOf]); refine op_call 53 [.tmp 59] _ _ _ rfl rfl rfl rfl rfl rfl (fun _ _ => Tryd.call53 _ _) (P1.out _ (HI1.out.to (X.trans hx))) (fun e w2 h_ => ?_); obtain ⟨rfl, hb2⟩ := h_; exact ⟨_, rfl, hb2, rfl⟩
  with_reducible apply FromM.eq
  · intro w' hx; (try dsimp only [List.nil_append, List.cons_append, DepsL, DepsL1, setO, setN, favs, opsOf]); go_wp2; exact OpPostE.some _ rfl rfl (Ext.refl _) rfl
  with_reducible apply FromM.eq
  · intro w' hx; (try dsimp only [List.nil_append, List.cons_append, DepsL, DepsL1, setO, setN, favs, opsOf]); go_wp2; exact OpPostE.some _ rfl rfl (Ext.refl _) rfl
  with_reducible apply FromM.eq
  · intro w' hx; (try dsimp only [List.nil_append, List.cons_append, DepsL, DepsL1, setO, setN, favs, opsOf]); go_wp2; exact OpPostE.some _ rfl rfl (Ext.refl _) rfl
  with_reducible refine FromM.fin ?_
  intro w' hx
  (try dsimp only [List.nil_append, List.cons_append, EndL, DepsL1, setO, setN])
  replace X := X.trans hx
  clear hx c3 k0 k1 k2 k3 j0 j1 j2 j3
  go_wp2_with fail
  go_ret
  exact ⟨by rw [HTT.out]; rfl, X⟩
set_option maxRecDepth 100000 in
set_option maxHeartbeats 8000000 in
theorem RText_20 (e : E) (hop : e.op = 20) (hlen0 : e.args.length = 3) (hR : ∀ (i : Nat) x, e.args[i]? = some x → RT x) (w : World) (he : InE w e) : Calls Tryd.prog 53 #[e.v] w fun r w' => r = .returned (.string ⟨(txB e).toArray⟩) ∧ Ext w w' := by
  have WR := Lib.hid hR
  have hL := he.l
  have HT := txB_eq e
  unfold E.v
  obtain ⟨op, hop2⟩ : ∃ q, q = e.op := ⟨_, rfl⟩
  obtain ⟨ev, hev⟩ : ∃ q, q = e.val := ⟨_, rfl⟩
  obtain ⟨s, hs⟩ : ∃ q, q = e.name := ⟨_, rfl⟩
  obtain ⟨a, ha⟩ : ∃ q, q = e.a := ⟨_, rfl⟩
  obtain ⟨c, hc⟩ : ∃ q, q = e.cap := ⟨_, rfl⟩
  obtain ⟨A, hA⟩ : ∃ q, q = e.args := ⟨_, rfl⟩
  obtain ⟨n, hn⟩ : ∃ q, q = A.length := ⟨_, rfl⟩
  rw [← ha, ← hA] at hL
  rw [← hA] at WR
  rw [← hop2, ← hev, ← hs, ← hA] at HT
  rw [← hop2, ← hev, ← hs, ← ha, ← hc, ← hA, ← hn]
  rw [← hop2] at hop
  have hn2 : A.length = 3 := by rw [hA]; exact hlen0
  have hnn : n = 3 := by rw [hn]; exact hn2
  obtain ⟨x0, hx0⟩ := getE (l := A) (i := 0) (by omega)
  obtain ⟨⟨ab, o, haa, k0, k1, k2, k3⟩, hin0⟩ := hL.at hx0
  subst haa
  have HK0 : Hid (∀ w', Ext w w' → w'.cell? ⟨ab, o, none⟩ = some (.int .i64 x0.op) ∧ w'.cell? ⟨ab, o + 1, none⟩ = some (.int .u64 (x0.val : Int)) ∧ w'.cell? ⟨ab, o + 2, none⟩ = some (.string x0.name) ∧ w'.cell? ⟨ab, o + 3, none⟩ = some (.slice x0.a x0.args.length x0.cap)) := Lib.hid (fun w' h => ⟨h.cell k0, h.cell k1, h.cell k2, h.cell k3⟩)
  clear k0 k1 k2 k3
  have HI0 := Lib.hid hin0
  have hr0 := WR.out 0 x0 hx0
  have HU0 : Hid ((A.map txB).getD 0 [] = txB x0) := Lib.hid (tAt_get hx0)
  have HO0 : Hid (oAt A 0 = x0.op) := Lib.hid (oAt_get hx0)
  obtain ⟨x1, hx1⟩ := getE (l := A) (i := 1) (by omega)
  obtain ⟨⟨ab2, o2, haa, j0, j1, j2, j3⟩, hin1⟩ := hL.at hx1
  obtain ⟨rfl, rfl⟩ : ab = ab2 ∧ o = o2 := by simpa using haa
  clear haa
  have HK1 : Hid (∀ w', Ext w w' → w'.cell? ⟨ab, o + 4, none⟩ = some (.int .i64 x1.op) ∧ w'.cell? ⟨ab, o + 5, none⟩ = some (.int .u64 (x1.val : Int)) ∧ w'.cell? ⟨ab, o + 6, none⟩ = some (.string x1.name) ∧ w'.cell? ⟨ab, o + 7, none⟩ = some (.slice x1.a x1.args.length x1.cap)) := Lib.hid (fun w' h => ⟨h.cell j0, h.cell j1, h.cell j2, h.cell j3⟩)
  clear j0 j1 j2 j3
  have HI1 := Lib.hid hin1
  have hr1 := WR.out 1 x1 hx1
  have HU1 : Hid ((A.map txB).getD 1 [] = txB x1) := Lib.hid (tAt_get hx1)
  have HO1 : Hid (oAt A 1 = x1.op) := Lib.hid (oAt_get hx1)
  obtain ⟨x2, hx2⟩ := getE (l := A) (i := 2) (by omega)
  obtain ⟨⟨ab2, o2, haa, i0, i1, i2, i3⟩, hin2⟩ := hL.at hx2
  obtain ⟨rfl, rfl⟩ : ab = ab2 ∧ o = o2 := by simpa using haa
  clear haa
  have HK2 : Hid (∀ w', Ext w w' → w'.cell? ⟨ab, o + 8, none⟩ = some (.int .i64 x2.op) ∧ w'.cell? ⟨ab, o + 9, none⟩ = some (.int .u64 (x2.val : Int)) ∧ w'.cell? ⟨ab, o + 10, none⟩ = some (.string x2.name) ∧ w'.cell? ⟨ab, o + 11, none⟩ = some (.slice x2.a x2.args.length x2.cap)) := Lib.hid (fun w' h => ⟨h.cell i0, h.cell i1, h.cell i2, h.cell i3⟩)
  clear i0 i1 i2 i3
  have HI2 := Lib.hid hin2
  have hr2 := WR.out 2 x2 hx2
  have HU2 : Hid ((A.map txB).getD 2 [] = txB x2) := Lib.hid (tAt_get hx2)
  have HO2 : Hid (oAt A 2 = x2.op) := Lib.hid (oAt_get hx2)
  clear hL
  subst hop
  subst hnn
  have P0 := fun w' h => operand_c x0 hr0 2 w' h
  obtain ⟨A0, hA0⟩ : ∃ Y : ByteArray, Y = ⟨(par x0.op 2 (txB x0)).toArray⟩ := ⟨_, rfl⟩
  have s0 : A0.size ≤ 24002 := by rw [hA0, mkS]; have := par_len x0.op 2 (txB x0); have := hr0.1; omega
  have D0 : par x0.op 2 (txB x0) = A0.data.toList := by rw [hA0]
  simp only [← hA0] at P0
  unfold E.v at P0
  clear hA0
  have P1 := fun w' h => hr1.2 w' h
  obtain ⟨A1, hA1⟩ : ∃ Y : ByteArray, Y = ⟨(txB x1).toArray⟩ := ⟨_, rfl⟩
  have s1 : A1.size ≤ 24002 := by rw [hA1, mkS]; have := hr1.1; omega
  have D1 : txB x1 = A1.data.toList := by rw [hA1]
  simp only [← hA1] at P1
  unfold E.v at P1
  clear hA1
  have P2 := fun w' h => hr2.2 w' h
  obtain ⟨A2, hA2⟩ : ∃ Y : ByteArray, Y = ⟨(txB x2).toArray⟩ := ⟨_, rfl⟩
  have s2 : A2.size ≤ 24002 := by rw [hA2, mkS]; have := hr2.1; omega
  have D2 : txB x2 = A2.data.toList := by rw [hA2]
  simp only [← hA2] at P2
  unfold E.v at P2
  clear hA2
  unfold asm at HT
  rw [if_neg (by decide), if_neg (by decide), if_neg (by decide), if_neg (by decide), if_neg (by decide), if_neg (by decide), if_neg (by decide), if_neg (by decide), if_neg (by decide), if_neg (by decide), if_pos rfl, HO0.out, HU0.out, HO1.out, HU1.out, HO2.out, HU2.out, par_one, par_one, D0, D1, D2] at HT
  obtain ⟨TT, hTT⟩ : ∃ q : ByteArray, q = ⟨(txB e).toArray⟩ := ⟨_, rfl⟩
  have HTT : Hid (TT = A0 ++ ⟨#[32, 63, 32]⟩ ++ A1 ++ ⟨#[32, 58, 32]⟩ ++ A2) := Lib.hid (by
    rw [hTT]
    refine baEq ((mkL _).trans (HT.trans ?_))
    first | rfl | (simp only [baApp, mkL]; done) | (simp only [baApp, mkL]; simp))
  rw [← hTT]
  clear hTT HT
  have u0 : ¬ 9223372036854775807 < A0.size + 3 := by omega
  have u1 : ¬ 9223372036854775807 < A0.size + 3 + A1.size := by omega
  have u2 : ¬ 9223372036854775807 < A0.size + 3 + A1.size + 3 := by omega
  have u3 : ¬ 9223372036854775807 < A0.size + 3 + A1.size + 3 + A2.size := by omega
  clear D0 hr0 HU0 HO0 D1 hr1 HU1 HO1 D2 hr2 HU2 HO2 hop2 hev hs ha hc hA hn he hR WR hlen0 hn2
  obtain ⟨x0o, hho⟩ : ∃ q, q = x0.op := ⟨_, rfl⟩
  simp only [← hho] at HK0 P0
  obtain ⟨x0v, hhv⟩ : ∃ q, q = x0.val := ⟨_, rfl⟩
  simp only [← hhv] at HK0 P0
  obtain ⟨x0n, hhn⟩ : ∃ q, q = x0.name := ⟨_, rfl⟩
  simp only [← hhn] at HK0 P0
  obtain ⟨x0a, hha⟩ : ∃ q, q = x0.a := ⟨_, rfl⟩
  simp only [← hha] at HK0 P0
  obtain ⟨x0l, hhl⟩ : ∃ q, q = x0.args.length := ⟨_, rfl⟩
  simp only [← hhl] at HK0 P0
  obtain ⟨x0c, hhc⟩ : ∃ q, q = x0.cap := ⟨_, rfl⟩
  simp only [← hhc] at HK0 P0
  clear hho hhv hhn hha hhl hhc hx0 hin0
  obtain ⟨x1o, hho⟩ : ∃ q, q = x1.op := ⟨_, rfl⟩
  simp only [← hho] at HK1 P1
  obtain ⟨x1v, hhv⟩ : ∃ q, q = x1.val := ⟨_, rfl⟩
  simp only [← hhv] at HK1 P1
  obtain ⟨x1n, hhn⟩ : ∃ q, q = x1.name := ⟨_, rfl⟩
  simp only [← hhn] at HK1 P1
  obtain ⟨x1a, hha⟩ : ∃ q, q = x1.a := ⟨_, rfl⟩
  simp only [← hha] at HK1 P1
  obtain ⟨x1l, hhl⟩ : ∃ q, q = x1.args.length := ⟨_, rfl⟩
  simp only [← hhl] at HK1 P1
  obtain ⟨x1c, hhc⟩ : ∃ q, q = x1.cap := ⟨_, rfl⟩
  simp only [← hhc] at HK1 P1
  clear hho hhv hhn hha hhl hhc hx1 hin1
  obtain ⟨x2o, hho⟩ : ∃ q, q = x2.op := ⟨_, rfl⟩
  simp only [← hho] at HK2 P2
  obtain ⟨x2v, hhv⟩ : ∃ q, q = x2.val := ⟨_, rfl⟩
  simp only [← hhv] at HK2 P2
  obtain ⟨x2n, hhn⟩ : ∃ q, q = x2.name := ⟨_, rfl⟩
  simp only [← hhn] at HK2 P2
  obtain ⟨x2a, hha⟩ : ∃ q, q = x2.a := ⟨_, rfl⟩
  simp only [← hha] at HK2 P2
  obtain ⟨x2l, hhl⟩ : ∃ q, q = x2.args.length := ⟨_, rfl⟩
  simp only [← hhl] at HK2 P2
  obtain ⟨x2c, hhc⟩ : ∃ q, q = x2.cap := ⟨_, rfl⟩
  simp only [← hhc] at HK2 P2
  clear hho hhv hhn hha hhl hhc hx2 hin2
  replace P0 := Lib.hid P0
  replace P1 := Lib.hid P1
  replace P2 := Lib.hid P2
  go_enter Tryd.func53, Tryd.ntmps53
  go_wp2_with fail
  obtain ⟨wb, hwb⟩ : ∃ q, q = w.alloc (.cells #[.int .i64 20, .int .u64 (ev : Int), .string s, .slice (some ⟨ab, o, none⟩) 3 c] 44) := ⟨_, rfl⟩
  have c3 : wb.cell? ⟨w.heap.size, 3, none⟩ = some (.slice (some ⟨ab, o, none⟩) 3 c) := by rw [hwb]; simp
  have X : Ext w wb := by rw [hwb]; exact (Ext.refl _).alloc _
  rw [← hwb]
  clear hwb
  obtain ⟨k0, k1, k2, k3⟩ := HK0.out _ X
  obtain ⟨j0, j1, j2, j3⟩ := HK1.out _ X
  obtain ⟨i0, i1, i2, i3⟩ := HK2.out _ X
  refine region_factsL [[], [(0, 94)], [(1, 95)], [(2, 96)], [(3, 97)], [(4, 98)], [], [(6, 100)], [(7, 101)], [(8, 102)], [(9, 103)], [(5, 99), (10, 104)], [(11, 105)], [], [(13, 107)], [(14, 108)], [(15, 109)], [(16, 110)], [(12, 106), (17, 111)], [(18, 112)]] [some 94, some 95, some 96, some 97, some 98, some 99, some 100, some 101, some 102, some 103, some 104, some 105, some 106, some 107, some 108, some 109, some 110, some 111, some 112, some 2] [false, true, false, false, false, false, false, false, false, false, false, false, false, false, false, false, false, false, false, false, false, false, false, false, false, false, false, false, false, false, false, false, false, false, false, false, false, false, false, false, false, false, false, false, false, false, false, false, false, false, false, false, false, false, false, false, false, false, false, false, false, false, false, false, false, false, false, false, false, false, false, false, false, false, false, false, false, false, false, false, false, false, false, false, false, false, false, false, false, false, false, false, false, false, false, false, false, false, false, false, false, false, false, false, false, false, false, false, false, false, false, false, false, false, false, false, false, false, false, false, false, false, false, false, false, false, false, false, false, false, false, false, false, false, false, false, false, false, false, false, false, false, false, false, false, false, false, false, false, false] (by kernel_rfl) (by kernel_rfl) (by kernel_rfl) ?_
  dsimp only [maskL]
  with_reducible apply FromM.eq
  · intro w' hx; (try dsimp only [List.nil_append, List.cons_append, DepsL, DepsL1, setO, setN, favs, opsOf]); go_wp2; exact OpPostE.some _ rfl rfl (Ext.refl _) rfl
  with_reducible apply FromM.eq
  · intro w' hx; have c3x := hx.cell c3; have k0x := hx.cell k0; have k1x := hx.cell k1; have k2x := hx.cell k2; have k3x := hx.cell k3; have j0x := hx.cell j0; have j1x := hx.cell j1; have j2x := hx.cell j2; have j3x := hx.cell j3; have i0x := hx.cell i0; have i1x := hx.cell i1; have i2x := hx.cell i2; have i3x := hx.cell i3; (try dsimp only [List.nil_append, List.cons_append, DepsL, DepsL1, setO, setN, favs, opsOf]); go_wp2; exact OpPostE.some _ rfl rfl (Ext.refl _) rfl
  with_reducible apply FromM.eq
  · intro w' hx; (try dsimp only [List.nil_append, List.cons_append, DepsL, DepsL1, setO, setN, favs, opsOf]); go_wp2; exact OpPostE.some _ rfl rfl (Ext.refl _) rfl
  with_reducible apply FromM.eq
  · intro w' hx; have c3x := hx.cell c3; have k0x := hx.cell k0; have k1x := hx.cell k1; have k2x := hx.cell k2; have k3x := hx.cell k3; have j0x := hx.cell j0; have j1x := hx.cell j1; have j2x := hx.cell j2; have j3x := hx.cell j3; have i0x := hx.cell i0; have i1x := hx.cell i1; have i2x := hx.cell i2; have i3x := hx.cell i3; (try dsimp only [List.nil_append, List.cons_append, DepsL, DepsL1, setO, setN, favs, opsOf]); go_wp2; exact OpPostE.some _ rfl rfl (Ext.refl _) rfl
  with_reducible apply FromM.eq
  · intro w' hx; (try dsimp only [List.nil_append, List.cons_append, DepsL, DepsL1, setO, setN, favs, opsOf]); refine op_call 76 [.tmp 97, .const (.int .i64 2)] _ _ _ rfl rfl rfl rfl rfl rfl (fun _ _ => Tryd.call76 _ _) (P0.out _ (HI0.out.to (X.trans hx))) (fun e w2 h_ => ?_); obtain ⟨rfl, hb2⟩ := h_; exact ⟨_, rfl, hb2, rfl⟩
  with_reducible apply FromM.eq
  · intro w' hx; (try dsimp only [List.nil_append, List.cons_append, DepsL, DepsL1, setO, setN, favs, opsOf]); go_wp2; exact OpPostE.some _ rfl rfl (Ext.refl _) rfl
  with_reducible apply FromM.eq
  · intro w' hx; (try dsimp only [List.nil_append, List.cons_append, DepsL, DepsL1, setO, setN, favs, opsOf]); go_wp2; exact OpPostE.some _ rfl rfl (Ext.refl _) rfl
  with_reducible apply FromM.eq
  · intro w' hx; have c3x := hx.cell c3; have k0x := hx.cell k0; have k1x := hx.cell k1; have k2x := hx.cell k2; have k3x := hx.cell k3; have j0x := hx.cell j0; have j1x := hx.cell j1; have j2x := hx.cell j2; have j3x := hx.cell j3; have i0x := hx.cell i0; have i1x := hx.cell i1; have i2x := hx.cell i2; have i3x := hx.cell i3; (try dsimp only [List.nil_append, List.cons_append, DepsL, DepsL1, setO, setN, favs, opsOf]); go_wp2; exact OpPostE.some _ rfl rfl (Ext.refl _) rfl
  with_reducible apply FromM.eq
  · intro w' hx; (try dsimp only [List.nil_append, List.cons_append, DepsL, DepsL1, setO, setN, favs, opsOf]); go_wp2; exact OpPostE.some _ rfl rfl (Ext.refl _) rfl
  with_reducible apply FromM.eq
  · intro w' hx; have c3x := hx.cell c3; have k0x := hx.cell k0; have k1x := hx.cell k1; have k2x := hx.cell k2; have k3x := hx.cell k3; have j0x := hx.cell j0; have j1x := hx.cell j1; have j2x := hx.cell j2; have j3x := hx.cell j3; have i0x := hx.cell i0; have i1x := hx.cell i1; have i2x := hx.cell i2; have i3x := hx.cell i3; (try dsimp only [List.nil_append, List.cons_append, DepsL, DepsL1, setO, setN, favs, opsOf]); go_wp2; exact OpPostE.some _ rfl rfl (Ext.refl _) rfl
  with_reducible apply FromM.eq
  · intro w' hx; (try dsimp only [List.nil_append, List.cons_append, DepsL, DepsL1, setO, setN, favs, opsOf]); refine op_call 53 [.tmp 103] _ _ _ rfl rfl rfl rfl rfl rfl (fun _ _ => Tryd.call53 _ _) (P1.out _ (HI1.out.to (X.trans hx))) (fun e w2 h_ => ?_); obtain ⟨rfl, hb2⟩ := h_; exact ⟨_, rfl, hb2, rfl⟩
  with_reducible apply FromM.eq
  · intro w' hx; (try dsimp only [List.nil_append, List.cons_append, DepsL, DepsL1, setO, setN, favs, opsOf]); go_wp2; exact OpPostE.some _ rfl rfl (Ext.refl _) rfl
  with_reducible apply FromM.eq
  · intro w' hx; (try dsimp only [List.nil_append, List.cons_append, DepsL, DepsL1, setO, setN, favs, opsOf]); go_wp2; exact OpPostE.some _ rfl rfl (Ext.refl _) rfl
  with_reducible apply FromM.eq
  · intro w' hx; (try dsimp only [List.nil_append, List.cons_append, DepsL, DepsL1, setO, setN, favs, opsOf]); go_wp2; exact OpPostE.some _ rfl rfl (Ext.refl _) rfl
  with_reducible apply FromM.eq
  · intro w' hx; have c3x := hx.cell c3; have k0x := hx.cell k0; have k1x := hx.cell k1; have k2x := hx.cell k2; have k3x := hx.cell k3; have j0x := hx.cell j0; have j1x := hx.cell j1; have j2x := hx.cell j2; have j3x := hx.cell j3; have i0x := hx.cell i0; have i1x := hx.cell i1; have i2x := hx.cell i2; have i3x := hx.cell i3; (try dsimp only [List.nil_append, List.cons_append, DepsL, DepsL1, setO, setN, favs, opsOf]); go_wp2; exact OpPostE.some _ rfl rfl (Ext.refl _) rfl
  with_reducible apply FromM.eq
  · intro w' hx; (try dsimp only [List.nil_append, List.cons_append, DepsL, DepsL1, setO, setN, favs, opsOf]); go_wp2; exact OpPostE.some _ rfl rfl (Ext.refl _) rfl
  with_reducible apply FromM.eq
  · intro w' hx; have c3x := hx.cell c3; have k0x := hx.cell k0; have k1x := hx.cell k1; have k2x := hx.cell k2; have k3x := hx.cell k3; have j0x := hx.cell j0; have j1x := hx.cell j1; have j2x := hx.cell j2; have j3x := hx.cell j3; have i0x := hx.cell i0; have i1x := hx.cell i1; have i2x := hx.cell i2; have i3x := hx.cell i3; (try dsimp only [List.nil_append, List.cons_append, DepsL, DepsL1, setO, setN, favs, opsOf]); go_wp2; exact OpPostE.some _ rfl rfl (Ext.refl _) rfl
  with_reducible apply FromM.eq
  · intro w' hx; (try dsimp only [List.nil_append, List.cons_append, DepsL, DepsL1, setO, setN, favs, opsOf]); refine op_call 53 [.tmp 110] _ _ _ rfl rfl rfl rfl rfl rfl (fun _ _ => Tryd.call53 _ _) (P2.out _ (HI2.out.to (X.trans hx))) (fun e w2 h_ => ?_); obtain ⟨rfl, hb2⟩ := h_; exact ⟨_, rfl, hb2, rfl⟩
  with_reducible apply FromM.eq
  · intro w' hx; (try dsimp only [List.nil_append, List.cons_append, DepsL, DepsL1, setO, setN, favs, opsOf]); go_wp2; exact OpPostE.some _ rfl rfl (Ext.refl _) rfl
  with_reducible apply FromM.eq
  · intro w' hx; (try dsimp only [List.nil_append, List.cons_append, DepsL, DepsL1, setO, setN, favs, opsOf]); go_wp2; exact OpPostE.some _ rfl rfl (Ext.refl _) rfl
  with_reducible refine FromM.fin ?_
  intro w' hx
  (try dsimp only [List.nil_append, List.cons_append, EndL, DepsL1, setO, setN])
  replace X := X.trans hx
  clear hx c3 k0 k1 k2 k3 j0 j1 j2 j3 i0 i1 i2 i3
  go_wp2_with fail
  go_ret
  exact ⟨by rw [HTT.out]; rfl, X⟩
set_option maxRecDepth 100000 in
set_option maxHeartbeats 8000000 in
theorem RText_bin (e : E) (hop : 11 ≤ e.op ∧ e.op ≤ 19) (hlen0 : e.args.length = 2) (hR : ∀ (i : Nat) x, e.args[i]? = some x → RT x) (w : World) (he : InE w e) : Calls Tryd.prog 53 #[e.v] w fun r w' => r = .returned (.string ⟨(txB e).toArray⟩) ∧ Ext w w' := by
  have WR := Lib.hid hR
  have hL := he.l
  have HT := txB_eq e
  unfold E.v
  obtain ⟨op, hop2⟩ : ∃ q, q = e.op := ⟨_, rfl⟩
  obtain ⟨ev, hev⟩ : ∃ q, q = e.val := ⟨_, rfl⟩
  obtain ⟨s, hs⟩ : ∃ q, q = e.name := ⟨_, rfl⟩
  obtain ⟨a, ha⟩ : ∃ q, q = e.a := ⟨_, rfl⟩
  obtain ⟨c, hc⟩ : ∃ q, q = e.cap := ⟨_, rfl⟩
  obtain ⟨A, hA⟩ : ∃ q, q = e.args := ⟨_, rfl⟩
  obtain ⟨n, hn⟩ : ∃ q, q = A.length := ⟨_, rfl⟩
  rw [← ha, ← hA] at hL
  rw [← hA] at WR
  rw [← hop2, ← hev, ← hs, ← hA] at HT
  rw [← hop2, ← hev, ← hs, ← ha, ← hc, ← hA, ← hn]
  rw [← hop2] at hop
  have hn2 : A.length = 2 := by rw [hA]; exact hlen0
  have hnn : n = 2 := by rw [hn]; exact hn2
  obtain ⟨x0, hx0⟩ := getE (l := A) (i := 0) (by omega)
  obtain ⟨⟨ab, o, haa, k0, k1, k2, k3⟩, hin0⟩ := hL.at hx0
  subst haa
  have HK0 : Hid (∀ w', Ext w w' → w'.cell? ⟨ab, o, none⟩ = some (.int .i64 x0.op) ∧ w'.cell? ⟨ab, o + 1, none⟩ = some (.int .u64 (x0.val : Int)) ∧ w'.cell? ⟨ab, o + 2, none⟩ = some (.string x0.name) ∧ w'.cell? ⟨ab, o + 3, none⟩ = some (.slice x0.a x0.args.length x0.cap)) := Lib.hid (fun w' h => ⟨h.cell k0, h.cell k1, h.cell k2, h.cell k3⟩)
  clear k0 k1 k2 k3
  have HI0 := Lib.hid hin0
  have hr0 := WR.out 0 x0 hx0
  have HU0 : Hid ((A.map txB).getD 0 [] = txB x0) := Lib.hid (tAt_get hx0)
  have HO0 : Hid (oAt A 0 = x0.op) := Lib.hid (oAt_get hx0)
  obtain ⟨x1, hx1⟩ := getE (l := A) (i := 1) (by omega)
  obtain ⟨⟨ab2, o2, haa, j0, j1, j2, j3⟩, hin1⟩ := hL.at hx1
  obtain ⟨rfl, rfl⟩ : ab = ab2 ∧ o = o2 := by simpa using haa
  clear haa
  have HK1 : Hid (∀ w', Ext w w' → w'.cell? ⟨ab, o + 4, none⟩ = some (.int .i64 x1.op) ∧ w'.cell? ⟨ab, o + 5, none⟩ = some (.int .u64 (x1.val : Int)) ∧ w'.cell? ⟨ab, o + 6, none⟩ = some (.string x1.name) ∧ w'.cell? ⟨ab, o + 7, none⟩ = some (.slice x1.a x1.args.length x1.cap)) := Lib.hid (fun w' h => ⟨h.cell j0, h.cell j1, h.cell j2, h.cell j3⟩)
  clear j0 j1 j2 j3
  have HI1 := Lib.hid hin1
  have hr1 := WR.out 1 x1 hx1
  have HU1 : Hid ((A.map txB).getD 1 [] = txB x1) := Lib.hid (tAt_get hx1)
  have HO1 : Hid (oAt A 1 = x1.op) := Lib.hid (oAt_get hx1)
  clear hL
  subst hnn
  unfold asm at HT
  rw [if_neg (by omega), if_neg (by omega), if_neg (by omega), if_neg (by omega), if_neg (by omega), if_neg (by omega), if_neg (by omega), if_neg (by omega), if_neg (by omega), if_neg (by omega), if_neg (by omega), HO0.out, HU0.out, HO1.out, HU1.out] at HT
  have hlv := lvl_pos op
  have LC := fun w' => RLevel_c op ev s (some ⟨ab, o, none⟩) 2 c w'
  have SC := fun w' => sign_c op hop.1 hop.2 w'
  have sb : (binS op).size ≤ 5 := by rw [Lib.size_eq]; exact binS_len op
  obtain ⟨L, hLv⟩ : ∃ q, q = lvl op := ⟨_, rfl⟩
  rw [← hLv] at HT hlv
  simp only [← hLv] at LC
  obtain ⟨B, hB⟩ : ∃ q, q = binS op := ⟨_, rfl⟩
  rw [← hB] at HT sb
  simp only [← hB] at SC
  replace LC := Lib.hid LC
  replace SC := Lib.hid SC
  clear hLv hB
  have q1 : (op == 1) = false := beq_eq_false_iff_ne.2 (by omega)
  have q2 : (op == 2) = false := beq_eq_false_iff_ne.2 (by omega)
  have q3 : (op == 3) = false := beq_eq_false_iff_ne.2 (by omega)
  have q4 : (op == 4) = false := beq_eq_false_iff_ne.2 (by omega)
  have q5 : (op == 5) = false := beq_eq_false_iff_ne.2 (by omega)
  have q6 : (op == 6) = false := beq_eq_false_iff_ne.2 (by omega)
  have q7 : (op == 7) = false := beq_eq_false_iff_ne.2 (by omega)
  have q8 : (op == 8) = false := beq_eq_false_iff_ne.2 (by omega)
  have q9 : (op == 9) = false := beq_eq_false_iff_ne.2 (by omega)
  have q10 : (op == 10) = false := beq_eq_false_iff_ne.2 (by omega)
  have q20 : (op == 20) = false := beq_eq_false_iff_ne.2 (by omega)
  clear hop
  by_cases h4 : L = 4
  · rw [if_pos h4] at HT
    subst h4
    rw [show (4 : Int) + 1 = 5 from rfl] at HT
    have P0 := fun w' h => operand_c x0 hr0 5 w' h
    obtain ⟨A0, hA0⟩ : ∃ Y : ByteArray, Y = ⟨(par x0.op 5 (txB x0)).toArray⟩ := ⟨_, rfl⟩
    have s0 : A0.size ≤ 24002 := by rw [hA0, mkS]; have := par_len x0.op 5 (txB x0); have := hr0.1; omega
    have D0 : par x0.op 5 (txB x0) = A0.data.toList := by rw [hA0]
    simp only [← hA0] at P0
    unfold E.v at P0
    clear hA0
    have P1 := fun w' h => operand_c x1 hr1 5 w' h
    obtain ⟨A1, hA1⟩ : ∃ Y : ByteArray, Y = ⟨(par x1.op 5 (txB x1)).toArray⟩ := ⟨_, rfl⟩
    have s1 : A1.size ≤ 24002 := by rw [hA1, mkS]; have := par_len x1.op 5 (txB x1); have := hr1.1; omega
    have D1 : par x1.op 5 (txB x1) = A1.data.toList := by rw [hA1]
    simp only [← hA1] at P1
    unfold E.v at P1
    clear hA1
    rw [D0, D1] at HT
    obtain ⟨TT, hTT⟩ : ∃ q : ByteArray, q = ⟨(txB e).toArray⟩ := ⟨_, rfl⟩
    have HTT : Hid (TT = A0 ++ B ++ A1) := Lib.hid (by
      rw [hTT]
      refine baEq ((mkL _).trans (HT.trans ?_))
      first | rfl | (simp only [baApp, mkL]; done) | (simp only [baApp, mkL]; simp))
    rw [← hTT]
    clear hTT HT
    have u0 : ¬ 9223372036854775807 < A0.size + B.size := by omega
    have u1 : ¬ 9223372036854775807 < A0.size + B.size + A1.size := by omega
    clear D0 hr0 HU0 HO0 D1 hr1 HU1 HO1 hlv hop2 hev hs ha hc hA hn he hR WR hlen0 hn2
    obtain ⟨x0o, hho⟩ : ∃ q, q = x0.op := ⟨_, rfl⟩
    simp only [← hho] at HK0 P0
    obtain ⟨x0v, hhv⟩ : ∃ q, q = x0.val := ⟨_, rfl⟩
    simp only [← hhv] at HK0 P0
    obtain ⟨x0n, hhn⟩ : ∃ q, q = x0.name := ⟨_, rfl⟩
    simp only [← hhn] at HK0 P0
    obtain ⟨x0a, hha⟩ : ∃ q, q = x0.a := ⟨_, rfl⟩
    simp only [← hha] at HK0 P0
    obtain ⟨x0l, hhl⟩ : ∃ q, q = x0.args.length := ⟨_, rfl⟩
    simp only [← hhl] at HK0 P0
    obtain ⟨x0c, hhc⟩ : ∃ q, q = x0.cap := ⟨_, rfl⟩
    simp only [← hhc] at HK0 P0
    clear hho hhv hhn hha hhl hhc hx0 hin0
    obtain ⟨x1o, hho⟩ : ∃ q, q = x1.op := ⟨_, rfl⟩
    simp only [← hho] at HK1 P1
    obtain ⟨x1v, hhv⟩ : ∃ q, q = x1.val := ⟨_, rfl⟩
    simp only [← hhv] at HK1 P1
    obtain ⟨x1n, hhn⟩ : ∃ q, q = x1.name := ⟨_, rfl⟩
    simp only [← hhn] at HK1 P1
    obtain ⟨x1a, hha⟩ : ∃ q, q = x1.a := ⟨_, rfl⟩
    simp only [← hha] at HK1 P1
    obtain ⟨x1l, hhl⟩ : ∃ q, q = x1.args.length := ⟨_, rfl⟩
    simp only [← hhl] at HK1 P1
    obtain ⟨x1c, hhc⟩ : ∃ q, q = x1.cap := ⟨_, rfl⟩
    simp only [← hhc] at HK1 P1
    clear hho hhv hhn hha hhl hhc hx1 hin1
    replace P0 := Lib.hid P0
    replace P1 := Lib.hid P1
    go_enter Tryd.func53, Tryd.ntmps53
    go_wp2_with fail
    obtain ⟨wb, hwb⟩ : ∃ q, q = w.alloc (.cells #[.int .i64 op, .int .u64 (ev : Int), .string s, .slice (some ⟨ab, o, none⟩) 2 c] 44) := ⟨_, rfl⟩
    have c0 : wb.cell? ⟨w.heap.size, 0, none⟩ = some (.int .i64 op) := by rw [hwb]; simp
    have c3 : wb.cell? ⟨w.heap.size, 3, none⟩ = some (.slice (some ⟨ab, o, none⟩) 2 c) := by rw [hwb]; simp
    have X : Ext w wb := by rw [hwb]; exact (Ext.refl _).alloc _
    rw [← hwb]
    clear hwb
    refine (LC.out _).mono ?_; rintro e1 w1 ⟨rfl, x1⟩
    replace c0 := x1.cell c0
    replace c3 := x1.cell c3
    replace X := X.trans x1
    clear x1
    obtain ⟨k0, k1, k2, k3⟩ := HK0.out _ X
    obtain ⟨j0, j1, j2, j3⟩ := HK1.out _ X
    go_wp2_with fail
    refine region_factsL [[], [(0, 117)], [(1, 118)], [(2, 119)], [(3, 120)], [], [(5, 122)], [(6, 123)], [(4, 121), (7, 124)], [], [(9, 126)], [(10, 127)], [(11, 128)], [(12, 129)], [(8, 125), (13, 130)], [(14, 131)]] [some 117, some 118, some 119, some 120, some 121, some 122, some 123, some 124, some 125, some 126, some 127, some 128, some 129, some 130, some 131, some 2] [false, true, false, false, false, false, false, false, false, false, false, false, false, false, false, false, false, false, false, false, false, false, false, false, false, false, false, false, false, false, false, false, false, false, false, false, false, false, false, false, false, false, false, false, false, false, false, false, false, false, false, false, false, false, false, false, false, false, false, false, false, false, false, false, false, false, false, false, false, false, false, false, false, false, false, false, false, false, false, false, false, false, false, false, false, false, false, false, false, false, false, false, false, false, false, false, false, false, false, false, false, false, false, false, false, false, false, false, false, false, false, false, false, false, false, false, false, false, false, false, false, false, false, false, false, false, false, false, false, false, false, false, false, false, false, false, false, false, false, false, false, false, false, false, false, false, false, false, false, false] (by kernel_rfl) (by kernel_rfl) (by kernel_rfl) ?_
    dsimp only [maskL]
    with_reducible apply FromM.eq
    · intro w' hx; (try dsimp only [List.nil_append, List.cons_append, DepsL, DepsL1, setO, setN, favs, opsOf]); go_wp2; exact OpPostE.some _ rfl rfl (Ext.refl _) rfl
    with_reducible apply FromM.eq
    · intro w' hx; have c0x := hx.cell c0; have c3x := hx.cell c3; have k0x := hx.cell k0; have k1x := hx.cell k1; have k2x := hx.cell k2; have k3x := hx.cell k3; have j0x := hx.cell j0; have j1x := hx.cell j1; have j2x := hx.cell j2; have j3x := hx.cell j3; (try dsimp only [List.nil_append, List.cons_append, DepsL, DepsL1, setO, setN, favs, opsOf]); go_wp2; exact OpPostE.some _ rfl rfl (Ext.refl _) rfl
    with_reducible apply FromM.eq
    · intro w' hx; (try dsimp only [List.nil_append, List.cons_append, DepsL, DepsL1, setO, setN, favs, opsOf]); go_wp2; exact OpPostE.some _ rfl rfl (Ext.refl _) rfl
    with_reducible apply FromM.eq
    · intro w' hx; have c0x := hx.cell c0; have c3x := hx.cell c3; have k0x := hx.cell k0; have k1x := hx.cell k1; have k2x := hx.cell k2; have k3x := hx.cell k3; have j0x := hx.cell j0; have j1x := hx.cell j1; have j2x := hx.cell j2; have j3x := hx.cell j3; (try dsimp only [List.nil_append, List.cons_append, DepsL, DepsL1, setO, setN, favs, opsOf]); go_wp2; exact OpPostE.some _ rfl rfl (Ext.refl _) rfl
    with_reducible apply FromM.eq
    · intro w' hx; (try dsimp only [List.nil_append, List.cons_append, DepsL, DepsL1, setO, setN, favs, opsOf]); refine op_call 76 [.tmp 120, .const (.int .i64 5)] _ _ _ rfl rfl rfl rfl rfl rfl (fun _ _ => Tryd.call76 _ _) (P0.out _ (HI0.out.to (X.trans hx))) (fun e w2 h_ => ?_); obtain ⟨rfl, hb2⟩ := h_; exact ⟨_, rfl, hb2, rfl⟩
    with_reducible apply FromM.eq
    · intro w' hx; (try dsimp only [List.nil_append, List.cons_append, DepsL, DepsL1, setO, setN, favs, opsOf]); go_wp2; exact OpPostE.some _ rfl rfl (Ext.refl _) rfl
    with_reducible apply FromM.eq
    · intro w' hx; have c0x := hx.cell c0; have c3x := hx.cell c3; have k0x := hx.cell k0; have k1x := hx.cell k1; have k2x := hx.cell k2; have k3x := hx.cell k3; have j0x := hx.cell j0; have j1x := hx.cell j1; have j2x := hx.cell j2; have j3x := hx.cell j3; (try dsimp only [List.nil_append, List.cons_append, DepsL, DepsL1, setO, setN, favs, opsOf]); go_wp2; exact OpPostE.some _ rfl rfl (Ext.refl _) rfl
    with_reducible apply FromM.eq
    · intro w' hx; (try dsimp only [List.nil_append, List.cons_append, DepsL, DepsL1, setO, setN, favs, opsOf]); refine op_call 78 [.tmp 123] _ _ _ rfl rfl rfl rfl rfl rfl (fun _ _ => Tryd.call78 _ _) (SC.out _) (fun e w2 h_ => ?_); obtain ⟨rfl, hb2⟩ := h_; exact ⟨_, rfl, hb2, rfl⟩
    with_reducible apply FromM.eq
    · intro w' hx; (try dsimp only [List.nil_append, List.cons_append, DepsL, DepsL1, setO, setN, favs, opsOf]); go_wp2; exact OpPostE.some _ rfl rfl (Ext.refl _) rfl
    with_reducible apply FromM.eq
    · intro w' hx; (try dsimp only [List.nil_append, List.cons_append, DepsL, DepsL1, setO, setN, favs, opsOf]); go_wp2; exact OpPostE.some _ rfl rfl (Ext.refl _) rfl
    with_reducible apply FromM.eq
    · intro w' hx; have c0x := hx.cell c0; have c3x := hx.cell c3; have k0x := hx.cell k0; have k1x := hx.cell k1; have k2x := hx.cell k2; have k3x := hx.cell k3; have j0x := hx.cell j0; have j1x := hx.cell j1; have j2x := hx.cell j2; have j3x := hx.cell j3; (try dsimp only [List.nil_append, List.cons_append, DepsL, DepsL1, setO, setN, favs, opsOf]); go_wp2; exact OpPostE.some _ rfl rfl (Ext.refl _) rfl
    with_reducible apply FromM.eq
    · intro w' hx; (try dsimp only [List.nil_append, List.cons_append, DepsL, DepsL1, setO, setN, favs, opsOf]); go_wp2; exact OpPostE.some _ rfl rfl (Ext.refl _) rfl
    with_reducible apply FromM.eq
    · intro w' hx; have c0x := hx.cell c0; have c3x := hx.cell c3; have k0x := hx.cell k0; have k1x := hx.cell k1; have k2x := hx.cell k2; have k3x := hx.cell k3; have j0x := hx.cell j0; have j1x := hx.cell j1; have j2x := hx.cell j2; have j3x := hx.cell j3; (try dsimp only [List.nil_append, List.cons_append, DepsL, DepsL1, setO, setN, favs, opsOf]); go_wp2; exact OpPostE.some _ rfl rfl (Ext.refl _) rfl
    with_reducible apply FromM.eq
    · intro w' hx; (try dsimp only [List.nil_append, List.cons_append, DepsL, DepsL1, setO, setN, favs, opsOf]); refine op_call 76 [.tmp 129, .const (.int .i64 5)] _ _ _ rfl rfl rfl rfl rfl rfl (fun _ _ => Tryd.call76 _ _) (P1.out _ (HI1.out.to (X.trans hx))) (fun e w2 h_ => ?_); obtain ⟨rfl, hb2⟩ := h_; exact ⟨_, rfl, hb2, rfl⟩
    with_reducible apply FromM.eq
    · intro w' hx; (try dsimp only [List.nil_append, List.cons_append, DepsL, DepsL1, setO, setN, favs, opsOf]); go_wp2; exact OpPostE.some _ rfl rfl (Ext.refl _) rfl
    with_reducible apply FromM.eq
    · intro w' hx; (try dsimp only [List.nil_append, List.cons_append, DepsL, DepsL1, setO, setN, favs, opsOf]); go_wp2; exact OpPostE.some _ rfl rfl (Ext.refl _) rfl
    with_reducible refine FromM.fin ?_
    intro w' hx
    (try dsimp only [List.nil_append, List.cons_append, EndL, DepsL1, setO, setN])
    replace X := X.trans hx
    clear hx c0 c3 k0 k1 k2 k3 j0 j1 j2 j3
    go_wp2_with fail
    go_ret
    exact ⟨by rw [HTT.out]; rfl, X⟩
  · rw [if_neg h4] at HT
    have P0 := fun w' h => operand_c x0 hr0 L w' h
    obtain ⟨A0, hA0⟩ : ∃ Y : ByteArray, Y = ⟨(par x0.op L (txB x0)).toArray⟩ := ⟨_, rfl⟩
    have s0 : A0.size ≤ 24002 := by rw [hA0, mkS]; have := par_len x0.op L (txB x0); have := hr0.1; omega
    have D0 : par x0.op L (txB x0) = A0.data.toList := by rw [hA0]
    simp only [← hA0] at P0
    unfold E.v at P0
    clear hA0
    have P1 := fun w' h => operand_c x1 hr1 (L + 1) w' h
    obtain ⟨A1, hA1⟩ : ∃ Y : ByteArray, Y = ⟨(par x1.op (L + 1) (txB x1)).toArray⟩ := ⟨_, rfl⟩
    have s1 : A1.size ≤ 24002 := by rw [hA1, mkS]; have := par_len x1.op (L + 1) (txB x1); have := hr1.1; omega
    have D1 : par x1.op (L + 1) (txB x1) = A1.data.toList := by rw [hA1]
    simp only [← hA1] at P1
    unfold E.v at P1
    clear hA1
    rw [D0, D1] at HT
    obtain ⟨TT, hTT⟩ : ∃ q : ByteArray, q = ⟨(txB e).toArray⟩ := ⟨_, rfl⟩
    have HTT : Hid (TT = A0 ++ B ++ A1) := Lib.hid (by
      rw [hTT]
      refine baEq ((mkL _).trans (HT.trans ?_))
      first | rfl | (simp only [baApp, mkL]; done) | (simp only [baApp, mkL]; simp))
    rw [← hTT]
    clear hTT HT
    have u0 : ¬ 9223372036854775807 < A0.size + B.size := by omega
    have u1 : ¬ 9223372036854775807 < A0.size + B.size + A1.size := by omega
    have t4 : (L == 4) = false := beq_eq_false_iff_ne.2 h4
    have hl1 := hlv.1
    have hl2 := hlv.2
    clear D0 hr0 HU0 HO0 D1 hr1 HU1 HO1 hlv hop2 hev hs ha hc hA hn he hR WR hlen0 hn2 h4
    obtain ⟨x0o, hho⟩ : ∃ q, q = x0.op := ⟨_, rfl⟩
    simp only [← hho] at HK0 P0
    obtain ⟨x0v, hhv⟩ : ∃ q, q = x0.val := ⟨_, rfl⟩
    simp only [← hhv] at HK0 P0
    obtain ⟨x0n, hhn⟩ : ∃ q, q = x0.name := ⟨_, rfl⟩
    simp only [← hhn] at HK0 P0
    obtain ⟨x0a, hha⟩ : ∃ q, q = x0.a := ⟨_, rfl⟩
    simp only [← hha] at HK0 P0
    obtain ⟨x0l, hhl⟩ : ∃ q, q = x0.args.length := ⟨_, rfl⟩
    simp only [← hhl] at HK0 P0
    obtain ⟨x0c, hhc⟩ : ∃ q, q = x0.cap := ⟨_, rfl⟩
    simp only [← hhc] at HK0 P0
    clear hho hhv hhn hha hhl hhc hx0 hin0
    obtain ⟨x1o, hho⟩ : ∃ q, q = x1.op := ⟨_, rfl⟩
    simp only [← hho] at HK1 P1
    obtain ⟨x1v, hhv⟩ : ∃ q, q = x1.val := ⟨_, rfl⟩
    simp only [← hhv] at HK1 P1
    obtain ⟨x1n, hhn⟩ : ∃ q, q = x1.name := ⟨_, rfl⟩
    simp only [← hhn] at HK1 P1
    obtain ⟨x1a, hha⟩ : ∃ q, q = x1.a := ⟨_, rfl⟩
    simp only [← hha] at HK1 P1
    obtain ⟨x1l, hhl⟩ : ∃ q, q = x1.args.length := ⟨_, rfl⟩
    simp only [← hhl] at HK1 P1
    obtain ⟨x1c, hhc⟩ : ∃ q, q = x1.cap := ⟨_, rfl⟩
    simp only [← hhc] at HK1 P1
    clear hho hhv hhn hha hhl hhc hx1 hin1
    replace P0 := Lib.hid P0
    replace P1 := Lib.hid P1
    go_enter Tryd.func53, Tryd.ntmps53
    go_wp2_with fail
    obtain ⟨wb, hwb⟩ : ∃ q, q = w.alloc (.cells #[.int .i64 op, .int .u64 (ev : Int), .string s, .slice (some ⟨ab, o, none⟩) 2 c] 44) := ⟨_, rfl⟩
    have c0 : wb.cell? ⟨w.heap.size, 0, none⟩ = some (.int .i64 op) := by rw [hwb]; simp
    have c3 : wb.cell? ⟨w.heap.size, 3, none⟩ = some (.slice (some ⟨ab, o, none⟩) 2 c) := by rw [hwb]; simp
    have X : Ext w wb := by rw [hwb]; exact (Ext.refl _).alloc _
    rw [← hwb]
    clear hwb
    refine (LC.out _).mono ?_; rintro e1 w1 ⟨rfl, x1⟩
    replace c0 := x1.cell c0
    replace c3 := x1.cell c3
    replace X := X.trans x1
    clear x1
    obtain ⟨k0, k1, k2, k3⟩ := HK0.out _ X
    obtain ⟨j0, j1, j2, j3⟩ := HK1.out _ X
    go_wp2_with fail
    refine region_factsL [[], [(0, 132)], [(1, 133)], [(2, 134)], [], [(3, 135), (4, 136)], [], [(6, 138)], [(7, 139)], [(5, 137), (8, 140)], [], [(10, 142)], [(11, 143)], [(12, 144)], [], [(14, 146)], [(13, 145), (15, 147)], [(9, 141), (16, 148)], [(17, 149)]] [some 132, some 133, some 134, some 135, some 136, some 137, some 138, some 139, some 140, some 141, some 142, some 143, some 144, some 145, some 146, some 147, some 148, some 149, some 2] [false, true, false, true, false, false, false, false, false, false, false, false, false, false, false, false, false, false, false, false, false, false, false, false, false, false, false, false, false, false, false, false, false, false, false, false, false, false, false, false, false, false, false, false, false, false, false, false, false, false, false, false, false, false, false, false, false, false, false, false, false, false, false, false, false, false, false, false, false, false, false, false, false, false, false, false, false, false, false, false, false, false, false, false, false, false, false, false, false, false, false, false, false, false, false, false, false, false, false, false, false, false, false, false, false, false, false, false, false, false, false, false, false, false, false, false, false, false, false, false, false, false, false, false, false, false, false, false, false, false, false, false, false, false, false, false, false, false, false, false, false, false, false, false, false, false, false, false, false, false] (by kernel_rfl) (by kernel_rfl) (by kernel_rfl) ?_
    dsimp only [maskL]
    with_reducible apply FromM.eq
    · intro w' hx; (try dsimp only [List.nil_append, List.cons_append, DepsL, DepsL1, setO, setN, favs, opsOf]); go_wp2; exact OpPostE.some _ rfl rfl (Ext.refl _) rfl
    with_reducible apply FromM.eq
    · intro w' hx; have c0x := hx.cell c0; have c3x := hx.cell c3; have k0x := hx.cell k0; have k1x := hx.cell k1; have k2x := hx.cell k2; have k3x := hx.cell k3; have j0x := hx.cell j0; have j1x := hx.cell j1; have j2x := hx.cell j2; have j3x := hx.cell j3; (try dsimp only [List.nil_append, List.cons_append, DepsL, DepsL1, setO, setN, favs, opsOf]); go_wp2; exact OpPostE.some _ rfl rfl (Ext.refl _) rfl
    with_reducible apply FromM.eq
    · intro w' hx; (try dsimp only [List.nil_append, List.cons_append, DepsL, DepsL1, setO, setN, favs, opsOf]); go_wp2; exact OpPostE.some _ rfl rfl (Ext.refl _) rfl
    with_reducible apply FromM.eq
    · intro w' hx; have c0x := hx.cell c0; have c3x := hx.cell c3; have k0x := hx.cell k0; have k1x := hx.cell k1; have k2x := hx.cell k2; have k3x := hx.cell k3; have j0x := hx.cell j0; have j1x := hx.cell j1; have j2x := hx.cell j2; have j3x := hx.cell j3; (try dsimp only [List.nil_append, List.cons_append, DepsL, DepsL1, setO, setN, favs, opsOf]); go_wp2; exact OpPostE.some _ rfl rfl (Ext.refl _) rfl
    with_reducible apply FromM.eq
    · intro w' hx; (try dsimp only [List.nil_append, List.cons_append, DepsL, DepsL1, setO, setN, favs, opsOf]); go_wp2; exact OpPostE.some _ rfl rfl (Ext.refl _) rfl
    with_reducible apply FromM.eq
    · intro w' hx; (try dsimp only [List.nil_append, List.cons_append, DepsL, DepsL1, setO, setN, favs, opsOf]); refine op_call 76 [.tmp 135, .tmp 136] _ _ _ rfl rfl rfl rfl rfl rfl (fun _ _ => Tryd.call76 _ _) (P0.out _ (HI0.out.to (X.trans hx))) (fun e w2 h_ => ?_); obtain ⟨rfl, hb2⟩ := h_; exact ⟨_, rfl, hb2, rfl⟩
    with_reducible apply FromM.eq
    · intro w' hx; (try dsimp only [List.nil_append, List.cons_append, DepsL, DepsL1, setO, setN, favs, opsOf]); go_wp2; exact OpPostE.some _ rfl rfl (Ext.refl _) rfl
    with_reducible apply FromM.eq
    · intro w' hx; have c0x := hx.cell c0; have c3x := hx.cell c3; have k0x := hx.cell k0; have k1x := hx.cell k1; have k2x := hx.cell k2; have k3x := hx.cell k3; have j0x := hx.cell j0; have j1x := hx.cell j1; have j2x := hx.cell j2; have j3x := hx.cell j3; (try dsimp only [List.nil_append, List.cons_append, DepsL, DepsL1, setO, setN, favs, opsOf]); go_wp2; exact OpPostE.some _ rfl rfl (Ext.refl _) rfl
    with_reducible apply FromM.eq
    · intro w' hx; (try dsimp only [List.nil_append, List.cons_append, DepsL, DepsL1, setO, setN, favs, opsOf]); refine op_call 78 [.tmp 139] _ _ _ rfl rfl rfl rfl rfl rfl (fun _ _ => Tryd.call78 _ _) (SC.out _) (fun e w2 h_ => ?_); obtain ⟨rfl, hb2⟩ := h_; exact ⟨_, rfl, hb2, rfl⟩
    with_reducible apply FromM.eq
    · intro w' hx; (try dsimp only [List.nil_append, List.cons_append, DepsL, DepsL1, setO, setN, favs, opsOf]); go_wp2; exact OpPostE.some _ rfl rfl (Ext.refl _) rfl
    with_reducible apply FromM.eq
    · intro w' hx; (try dsimp only [List.nil_append, List.cons_append, DepsL, DepsL1, setO, setN, favs, opsOf]); go_wp2; exact OpPostE.some _ rfl rfl (Ext.refl _) rfl
    with_reducible apply FromM.eq
    · intro w' hx; have c0x := hx.cell c0; have c3x := hx.cell c3; have k0x := hx.cell k0; have k1x := hx.cell k1; have k2x := hx.cell k2; have k3x := hx.cell k3; have j0x := hx.cell j0; have j1x := hx.cell j1; have j2x := hx.cell j2; have j3x := hx.cell j3; (try dsimp only [List.nil_append, List.cons_append, DepsL, DepsL1, setO, setN, favs, opsOf]); go_wp2; exact OpPostE.some _ rfl rfl (Ext.refl _) rfl
    with_reducible apply FromM.eq
    · intro w' hx; (try dsimp only [List.nil_append, List.cons_append, DepsL, DepsL1, setO, setN, favs, opsOf]); go_wp2; exact OpPostE.some _ rfl rfl (Ext.refl _) rfl
    with_reducible apply FromM.eq
    · intro w' hx; have c0x := hx.cell c0; have c3x := hx.cell c3; have k0x := hx.cell k0; have k1x := hx.cell k1; have k2x := hx.cell k2; have k3x := hx.cell k3; have j0x := hx.cell j0; have j1x := hx.cell j1; have j2x := hx.cell j2; have j3x := hx.cell j3; (try dsimp only [List.nil_append, List.cons_append, DepsL, DepsL1, setO, setN, favs, opsOf]); go_wp2; exact OpPostE.some _ rfl rfl (Ext.refl _) rfl
    with_reducible apply FromM.eq
    · intro w' hx; (try dsimp only [List.nil_append, List.cons_append, DepsL, DepsL1, setO, setN, favs, opsOf]); go_wp2; exact OpPostE.some _ rfl rfl (Ext.refl _) rfl
    with_reducible apply FromM.eq
    · intro w' hx; (try dsimp only [List.nil_append, List.cons_append, DepsL, DepsL1, setO, setN, favs, opsOf]); go_wp2; exact OpPostE.some _ rfl rfl (Ext.refl _) rfl
    with_reducible apply FromM.eq
    · intro w' hx; (try dsimp only [List.nil_append, List.cons_append, DepsL, DepsL1, setO, setN, favs, opsOf]); refine op_call 76 [.tmp 145, .tmp 147] _ _ _ rfl rfl rfl rfl rfl rfl (fun _ _ => Tryd.call76 _ _) (P1.out _ (HI1.out.to (X.trans hx))) (fun e w2 h_ => ?_); obtain ⟨rfl, hb2⟩ := h_; exact ⟨_, rfl, hb2, rfl⟩
    with_reducible apply FromM.eq
    · intro w' hx; (try dsimp only [List.nil_append, List.cons_append, DepsL, DepsL1, setO, setN, favs, opsOf]); go_wp2; exact OpPostE.some _ rfl rfl (Ext.refl _) rfl
    with_reducible apply FromM.eq
    · intro w' hx; (try dsimp only [List.nil_append, List.cons_append, DepsL, DepsL1, setO, setN, favs, opsOf]); go_wp2; exact OpPostE.some _ rfl rfl (Ext.refl _) rfl
    with_reducible refine FromM.fin ?_
    intro w' hx
    (try dsimp only [List.nil_append, List.cons_append, EndL, DepsL1, setO, setN])
    replace X := X.trans hx
    clear hx c0 c3 k0 k1 k2 k3 j0 j1 j2 j3
    go_wp2_with fail
    go_ret
    exact ⟨by rw [HTT.out]; rfl, X⟩
theorem wtEs_get : ∀ {l : List E} {i : Nat} {x : E}, l[i]? = some x → wtE x ≤ wtEs l
  | [], i, x, h => by simp at h
  | e :: l, 0, x, h => by
    have h' : e = x := by simpa using h
    subst h'
    show wtE e ≤ wtE e + wtEs l; omega
  | e :: l, i + 1, x, h => by
    have := wtEs_get (l := l) (i := i) (x := x) (by simpa using h)
    show wtE x ≤ wtE e + wtEs l
    omega
theorem RText_n : ∀ (m : Nat) (e : E), E.sz e < m → okE e = true → wtE e ≤ 600 → ∀ w, InE w e → Calls Tryd.prog 53 #[e.v] w fun r w' => r = .returned (.string ⟨(txB e).toArray⟩) ∧ Ext w w'
  | 0, _, h, _, _, _, _ => absurd h (by omega)
  | m + 1, e, hm, hok, hwt, w, he => by
    rw [okE_eq, Bool.and_eq_true] at hok
    have hwt2 := wtE_eq e
    have hR : ∀ (i : Nat) x, e.args[i]? = some x → RT x := fun i x hx => by
      have h1 := wtEs_get hx
      refine ⟨?_, fun w' h' => RText_n m x (by have := E.sz_arg hx; omega) (all_at hok.1 hx) (by omega) w' h'⟩
      have h2 := len_txB (he.l.at hx).2
      omega
    have hC : (comF true (e.args.map txB)).length ≤ 24000 := by
      have h1 := comF_len true (e.args.map txB)
      have h2 := slen_le e.args (fun x hx => by
        obtain ⟨i, hi, rfl⟩ := List.mem_iff_getElem.1 hx
        exact len_txB (he.l.at (List.getElem?_eq_getElem hi)).2)
      omega
    have hsh := hok.2
    by_cases h8 : 8 ≤ e.op
    · rcases okSh_n hsh h8 with ⟨h, n⟩ | ⟨h, n⟩ | ⟨h, n⟩ | ⟨h, n⟩ | ⟨h, n⟩
      · exact RText_8 e h n hR w he
      · exact RText_9 e h n hR w he
      · exact RText_10 e h n hR w he
      · exact RText_20 e h n hR w he
      · exact RText_bin e h n hR w he
    · have : e.op = 1 ∨ e.op = 2 ∨ e.op = 3 ∨ e.op = 4 ∨ e.op = 5 ∨ e.op = 6 ∨ e.op = 7 := by
        unfold okSh at hsh
        by_cases q : e.op = 1 ∨ e.op = 2 ∨ e.op = 3 ∨ e.op = 4 ∨ e.op = 5 ∨ e.op = 6 ∨ e.op = 7
        · exact q
        · rw [if_neg (by omega), if_neg (by omega), if_neg (by omega), if_neg (by omega), if_neg (by omega), if_neg (by omega), if_neg (by omega), if_neg (by omega), if_neg (by omega)] at hsh
          cases hsh
      rcases this with h | h | h | h | h | h | h
      · exact RText_1 e h hR he.bd.val w he
      · exact RText_2 e h hR w he
      · exact RText_3 e h hR w he
      · exact RText_4 e h hR w he
      · exact RText_5 e h hR hC (by omega) w he
      · exact RText_6 e h hR he.bd.val hC w he
      · exact RText_7 e h hR hC w he
theorem RText_c (e : E) (hok : okE e = true) (hwt : wtE e ≤ 600) (w : World) (he : InE w e) : Calls Tryd.prog 53 #[e.v] w fun r w' => r = .returned (.string ⟨(txB e).toArray⟩) ∧ Ext w w' := RText_n _ e (Nat.lt_succ_self _) hok hwt w he
end Go.Proofs.YtcheigpejbmaoaaDoor
