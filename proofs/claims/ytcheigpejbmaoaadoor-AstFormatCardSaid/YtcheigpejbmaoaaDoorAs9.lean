/- writeOperator and writeExpr. Printed by gen/as9.py. -/
import Derived.Test.YtcheigpejbmaoaaDoorAs8
namespace Go.Proofs.YtcheigpejbmaoaaDoor
open Go.RowKit
set_option maxRecDepth 100000 in
set_option maxHeartbeats 4000000 in
theorem writeOperator_bin (e : E) (hop : 11 ≤ e.op ∧ e.op ≤ 19) (hlen0 : e.args.length = 2) (hWA : ∀ (i : Nat) x, e.args[i]? = some x → WE x) : WBc 96 e := by
  intro w0 b l v w he ht hx hb hp hlen
  have WA := Lib.hid hWA
  have HX := Lib.hid hx
  have HBX := Lib.hid hb
  have HP := Lib.hid hp
  have HTB := Lib.hid ht
  have hL := he.l
  have HT := Lib.hid (txB_eq e)
  have HLEN := Lib.hid hlen
  unfold E.v
  obtain ⟨op, hop2⟩ : ∃ q, q = e.op := ⟨_, rfl⟩
  obtain ⟨ev, hev⟩ : ∃ q, q = e.val := ⟨_, rfl⟩
  obtain ⟨s, hs⟩ : ∃ q, q = e.name := ⟨_, rfl⟩
  obtain ⟨a, ha⟩ : ∃ q, q = e.a := ⟨_, rfl⟩
  obtain ⟨c, hc⟩ : ∃ q, q = e.cap := ⟨_, rfl⟩
  obtain ⟨A, hA⟩ : ∃ q, q = e.args := ⟨_, rfl⟩
  obtain ⟨n, hn⟩ : ∃ q, q = A.length := ⟨_, rfl⟩
  rw [← ha, ← hA] at hL
  rw [← hA] at WA
  rw [← hop2, ← hev, ← hs, ← hA] at HT
  rw [← hop2, ← hev, ← hs, ← ha, ← hc, ← hA, ← hn]
  have hn2 : A.length = 2 := by rw [hA]; exact hlen0
  have hnn : n = 2 := by rw [hn]; exact hn2
  rw [← hop2] at hop
  obtain ⟨T, hT⟩ : ∃ q, q = txB e := ⟨_, rfl⟩
  rw [← hT] at HT HLEN ⊢
  clear hop2 hev hs ha hc hA hn hT hx hb hp ht he hlen hWA hlen0
  obtain ⟨x0, hx0⟩ := getE (l := A) (i := 0) (by omega)
  obtain ⟨⟨ab, o, haa, k0, k1, k2, k3⟩, hin0⟩ := hL.at hx0
  subst haa
  have HK0 : Hid (∀ w', Ext w0 w' → w'.cell? ⟨ab, o, none⟩ = some (.int .i64 x0.op) ∧ w'.cell? ⟨ab, o + 1, none⟩ = some (.int .u64 (x0.val : Int)) ∧ w'.cell? ⟨ab, o + 2, none⟩ = some (.string x0.name) ∧ w'.cell? ⟨ab, o + 3, none⟩ = some (.slice x0.a x0.args.length x0.cap)) := Lib.hid (fun w' h => ⟨h.cell k0, h.cell k1, h.cell k2, h.cell k3⟩)
  clear k0 k1 k2 k3
  have HW0 := Lib.hid (fun l v w r h1 h2 h3 h4 => WA.out 0 x0 hx0 w0 b l v w r hin0 HTB.out h1 h2 h3 h4)
  have HO0 : Hid (oAt A 0 = x0.op) := Lib.hid (oAt_get hx0)
  have HU0 : Hid ((A.map txB).getD 0 [] = txB x0) := Lib.hid (tAt_get hx0)
  unfold E.v at HW0
  obtain ⟨t0, ht0⟩ : ∃ q, q = txB x0 := ⟨_, rfl⟩
  rw [← ht0] at HW0 HU0
  obtain ⟨x0o, hho⟩ : ∃ q, q = x0.op := ⟨_, rfl⟩
  rw [← hho] at HK0 HW0 HO0
  obtain ⟨x0v, hhv⟩ : ∃ q, q = x0.val := ⟨_, rfl⟩
  rw [← hhv] at HK0 HW0
  obtain ⟨x0n, hhn⟩ : ∃ q, q = x0.name := ⟨_, rfl⟩
  rw [← hhn] at HK0 HW0
  obtain ⟨x0a, hha⟩ : ∃ q, q = x0.a := ⟨_, rfl⟩
  rw [← hha] at HK0 HW0
  obtain ⟨x0l, hhl⟩ : ∃ q, q = x0.args.length := ⟨_, rfl⟩
  rw [← hhl] at HK0 HW0
  obtain ⟨x0c, hhc⟩ : ∃ q, q = x0.cap := ⟨_, rfl⟩
  rw [← hhc] at HK0 HW0
  clear hho hhv hhn hha hhl hhc hx0 hin0 ht0
  obtain ⟨x1, hx1⟩ := getE (l := A) (i := 1) (by omega)
  obtain ⟨⟨ab2, o2, haa, k0, k1, k2, k3⟩, hin1⟩ := hL.at hx1
  obtain ⟨rfl, rfl⟩ : ab = ab2 ∧ o = o2 := by simpa using haa
  clear haa
  have HK1 : Hid (∀ w', Ext w0 w' → w'.cell? ⟨ab, o + 4, none⟩ = some (.int .i64 x1.op) ∧ w'.cell? ⟨ab, o + 5, none⟩ = some (.int .u64 (x1.val : Int)) ∧ w'.cell? ⟨ab, o + 6, none⟩ = some (.string x1.name) ∧ w'.cell? ⟨ab, o + 7, none⟩ = some (.slice x1.a x1.args.length x1.cap)) := Lib.hid (fun w' h => ⟨h.cell k0, h.cell k1, h.cell k2, h.cell k3⟩)
  clear k0 k1 k2 k3
  have HW1 := Lib.hid (fun l v w r h1 h2 h3 h4 => WA.out 1 x1 hx1 w0 b l v w r hin1 HTB.out h1 h2 h3 h4)
  have HO1 : Hid (oAt A 1 = x1.op) := Lib.hid (oAt_get hx1)
  have HU1 : Hid ((A.map txB).getD 1 [] = txB x1) := Lib.hid (tAt_get hx1)
  unfold E.v at HW1
  obtain ⟨t1, ht1⟩ : ∃ q, q = txB x1 := ⟨_, rfl⟩
  rw [← ht1] at HW1 HU1
  obtain ⟨x1o, hho⟩ : ∃ q, q = x1.op := ⟨_, rfl⟩
  rw [← hho] at HK1 HW1 HO1
  obtain ⟨x1v, hhv⟩ : ∃ q, q = x1.val := ⟨_, rfl⟩
  rw [← hhv] at HK1 HW1
  obtain ⟨x1n, hhn⟩ : ∃ q, q = x1.name := ⟨_, rfl⟩
  rw [← hhn] at HK1 HW1
  obtain ⟨x1a, hha⟩ : ∃ q, q = x1.a := ⟨_, rfl⟩
  rw [← hha] at HK1 HW1
  obtain ⟨x1l, hhl⟩ : ∃ q, q = x1.args.length := ⟨_, rfl⟩
  rw [← hhl] at HK1 HW1
  obtain ⟨x1c, hhc⟩ : ∃ q, q = x1.cap := ⟨_, rfl⟩
  rw [← hhc] at HK1 HW1
  clear hho hhv hhn hha hhl hhc hx1 hin1 ht1
  clear hL
  subst hnn
  have hlv := lvl_pos op
  have LC := Lib.hid (fun w' => level_c op ev s (some ⟨ab, o, none⟩) 2 c w')
  have BC := Lib.hid (fun w' => binaryText_c op hop.1 hop.2 w')
  have HT : Hid (T = par x0o (if lvl op = 4 then 5 else lvl op) t0 ++ ((binS op).data.toList ++ par x1o (lvl op + 1) t1)) := Lib.hid (by
    rw [HT.out, ← HO0.out, ← HO1.out, ← HU0.out, ← HU1.out]
    unfold asm
    rw [if_neg (by omega), if_neg (by omega), if_neg (by omega), if_neg (by omega), if_neg (by omega), if_neg (by omega), if_neg (by omega), if_neg (by omega), if_neg (by omega), if_neg (by omega), if_neg (by omega)])
  obtain ⟨L, hLv⟩ : ∃ q, q = lvl op := ⟨_, rfl⟩
  obtain ⟨B, hB⟩ : ∃ q, q = binS op := ⟨_, rfl⟩
  rw [← hLv] at LC HT hlv
  rw [← hB] at BC HT
  clear hLv hB
  have hlv1 := hlv.1
  have hlv2 := hlv.2
  have q8 : (op == 8) = false := beq_eq_false_iff_ne.2 (by omega)
  have q9 : (op == 9) = false := beq_eq_false_iff_ne.2 (by omega)
  have q10 : (op == 10) = false := beq_eq_false_iff_ne.2 (by omega)
  have q20 : (op == 20) = false := beq_eq_false_iff_ne.2 (by omega)
  clear hlv hop
  by_cases h4 : L = 4
  · have HT : Hid (T = par x0o 5 t0 ++ (B.data.toList ++ par x1o (L + 1) t1)) := Lib.hid (by rw [HT.out, if_pos h4])
    have tx : (L == 4) = true := beq_iff_eq.2 h4
    clear h4
    obtain ⟨wb, hwb⟩ : ∃ q, q = w.alloc (.cells #[.int .i64 op, .int .u64 (ev : Int), .string s, .slice (some ⟨ab, o, none⟩) 2 c] 44) := ⟨_, rfl⟩
    have c0 : wb.cell? ⟨w.heap.size, 0, none⟩ = some (.int .i64 op) := by rw [hwb]; simp
    have C0 := Lib.hid c0
    have c1 : wb.cell? ⟨w.heap.size, 1, none⟩ = some (.int .u64 (ev : Int)) := by rw [hwb]; simp
    have C1 := Lib.hid c1
    have c2 : wb.cell? ⟨w.heap.size, 2, none⟩ = some (.string s) := by rw [hwb]; simp
    have C2 := Lib.hid c2
    have c3 : wb.cell? ⟨w.heap.size, 3, none⟩ = some (.slice (some ⟨ab, o, none⟩) 2 c) := by rw [hwb]; simp
    have C3 := Lib.hid c3
    have HXB : Hid (Ext w wb) := Lib.hid (by rw [hwb]; exact (Ext.refl _).alloc _)
    have HX0 : Hid (Ext w0 wb) := Lib.hid (HX.out.trans HXB.out)
    have HA : Hid (Aft b v wb l v wb) := Lib.hid (Aft.ofExt (HBX.out.ext HXB.out) (Ext.refl _))
    have NB : Hid (w.heap.size ≠ b) := Lib.hid (by have := HBX.out.lt; omega)
    have NV : Hid (v.ownBlock ≠ some w.heap.size) := Lib.hid (fun q => by have := HBX.out.own q; omega)
    have HWB := Lib.hid hwb
    clear c0 c1 c2 c3 hwb
    go_enter Tryd.func96, Tryd.ntmps96
    go_wp2_with fail
    rw [← HWB.out]
    refine (LC.out _).mono ?_; rintro e1 wn ⟨rfl, x2⟩
    have HA := Lib.hid (HA.out.grow x2)
    clear x2
    have c0 := HA.out.cell C0.out NB.out NV.out
    have c3 := HA.out.cell C3.out NB.out NV.out
    obtain ⟨k0, k1, k2, k3⟩ := HK0.out _ (HA.out.ext HX0.out HP.out)
    go_wp2_with fail
    clear c0 c3 k0 k1 k2 k3
    refine (HW0.out _ _ _ 5 (HA.out.ext HX0.out HP.out) HA.out.bx (HA.out.past HX0.out.size HP.out) (by have q := HLEN.out; rw [HT.out] at q; (try simp only [List.length_append] at q ⊢); omega)).mono ?_; rintro e1 wn ⟨rfl, vn, ha⟩
    have HA := Lib.hid (HA.out.trans ha)
    clear ha
    have c0 := HA.out.cell C0.out NB.out NV.out
    go_wp2_with fail
    refine (BC.out _).mono ?_; rintro e1 wn2 ⟨rfl, rfl⟩
    clear c0
    go_wp2_with fail
    refine (WriteString_c b _ _ B _ HA.out.bx (by have q := HLEN.out; rw [HT.out] at q; rw [lenS]; (try simp only [List.length_append] at q ⊢); omega)).mono ?_; rintro e1 wn ⟨rfl, vn, ha⟩
    have HA := Lib.hid (HA.out.trans ha)
    clear ha
    have c0 := HA.out.cell C0.out NB.out NV.out
    have c1 := HA.out.cell C1.out NB.out NV.out
    have c2 := HA.out.cell C2.out NB.out NV.out
    have c3 := HA.out.cell C3.out NB.out NV.out
    obtain ⟨k0, k1, k2, k3⟩ := HK1.out _ (HA.out.ext HX0.out HP.out)
    go_wp2_with fail
    refine region_factsL [[], [], [(1, 25)], [(2, 26)], [(3, 27)], [], [(5, 29)], [(6, 30)]] [some 24, some 25, some 26, some 27, some 28, some 29, some 30, some 31] [true, false, false, true, false, false, false, false, false, false, false, false, false, false, false, false, false, false, false, false, false, false, false, false, false, false, false, false, false, false, false, false, false, false, false, false, false, false, false, false, false, false, false, false, false, false, false, false, false, false, false, false, false, false, false, false, false, false, false, false, false, false, false, false, false, false, false, false, false, false, false, false, false, false, false, false, false, false, false, false, false, false, false, false, false, false, false, false, false, false, false, false, false, false, false, false, false, false, false, false, false, false] (by kernel_rfl) (by kernel_rfl) (by kernel_rfl) ?_
    dsimp only [maskL]
    with_reducible apply FromM.eq
    · intro w' hx; (try dsimp only [List.nil_append, List.cons_append, DepsL, DepsL1, setO, setN, favs, opsOf]); go_wp2; exact OpPostE.some _ rfl rfl (Ext.refl _) rfl
    with_reducible apply FromM.eq
    · intro w' hx; (try dsimp only [List.nil_append, List.cons_append, DepsL, DepsL1, setO, setN, favs, opsOf]); go_wp2; exact OpPostE.some _ rfl rfl (Ext.refl _) rfl
    with_reducible apply FromM.eq
    · intro w' hx; have c0x := hx.cell c0; have c1x := hx.cell c1; have c2x := hx.cell c2; have c3x := hx.cell c3; have k0x := hx.cell k0; have k1x := hx.cell k1; have k2x := hx.cell k2; have k3x := hx.cell k3; (try dsimp only [List.nil_append, List.cons_append, DepsL, DepsL1, setO, setN, favs, opsOf]); go_wp2; exact OpPostE.some _ rfl rfl (Ext.refl _) rfl
    with_reducible apply FromM.eq
    · intro w' hx; (try dsimp only [List.nil_append, List.cons_append, DepsL, DepsL1, setO, setN, favs, opsOf]); go_wp2; exact OpPostE.some _ rfl rfl (Ext.refl _) rfl
    with_reducible apply FromM.eq
    · intro w' hx; have c0x := hx.cell c0; have c1x := hx.cell c1; have c2x := hx.cell c2; have c3x := hx.cell c3; have k0x := hx.cell k0; have k1x := hx.cell k1; have k2x := hx.cell k2; have k3x := hx.cell k3; (try dsimp only [List.nil_append, List.cons_append, DepsL, DepsL1, setO, setN, favs, opsOf]); go_wp2; exact OpPostE.some _ rfl rfl (Ext.refl _) rfl
    with_reducible apply FromM.eq
    · intro w' hx; have c0x := hx.cell c0; have c1x := hx.cell c1; have c2x := hx.cell c2; have c3x := hx.cell c3; have k0x := hx.cell k0; have k1x := hx.cell k1; have k2x := hx.cell k2; have k3x := hx.cell k3; (try dsimp only [List.nil_append, List.cons_append, DepsL, DepsL1, setO, setN, favs, opsOf]); go_wp2; exact OpPostE.some _ rfl rfl (Ext.refl _) rfl
    with_reducible apply FromM.eq
    · intro w' hx; (try dsimp only [List.nil_append, List.cons_append, DepsL, DepsL1, setO, setN, favs, opsOf]); refine op_call 81 [.tmp 29] _ _ _ rfl rfl rfl rfl rfl rfl (fun _ _ => Tryd.call81 _ _) (LC.out _) (fun e w2 h_ => ?_); obtain ⟨rfl, hb2⟩ := h_; exact ⟨_, rfl, hb2, rfl⟩
    with_reducible apply FromM.eq
    · intro w' hx; (try dsimp only [List.nil_append, List.cons_append, DepsL, DepsL1, setO, setN, favs, opsOf]); go_wp2; exact OpPostE.some _ rfl rfl (Ext.refl _) rfl
    with_reducible refine FromM.fin ?_
    intro w' hx
    (try dsimp only [List.nil_append, List.cons_append, EndL, DepsL1, setO, setN])
    have HA := Lib.hid (HA.out.grow hx)
    clear hx c0 c1 c2 c3 k0 k1 k2 k3
    go_wp2_with fail
    refine (HW1.out _ _ _ (L + 1) (HA.out.ext HX0.out HP.out) HA.out.bx (HA.out.past HX0.out.size HP.out) (by have q := HLEN.out; rw [HT.out] at q; (try simp only [List.length_append] at q ⊢); omega)).mono ?_; rintro e1 wn ⟨rfl, vn, ha⟩
    have HA := Lib.hid (HA.out.trans ha)
    clear ha
    go_wp2_with fail
    first | go_end0 | ((try simp only [Exit.inBlock, Exit.then]); refine bodyPost_ret (results_none rfl _ _ _) rfl ?_)
    refine ⟨rfl, vn, Aft.start HBX.out HXB.out ?_⟩
    have q := HA.out
    (try simp only [List.append_assoc] at q)
    rw [HT.out]
    exact q
  · have HT : Hid (T = par x0o L t0 ++ (B.data.toList ++ par x1o (L + 1) t1)) := Lib.hid (by rw [HT.out, if_neg h4])
    have tx : (L == 4) = false := beq_eq_false_iff_ne.2 h4
    clear h4
    obtain ⟨wb, hwb⟩ : ∃ q, q = w.alloc (.cells #[.int .i64 op, .int .u64 (ev : Int), .string s, .slice (some ⟨ab, o, none⟩) 2 c] 44) := ⟨_, rfl⟩
    have c0 : wb.cell? ⟨w.heap.size, 0, none⟩ = some (.int .i64 op) := by rw [hwb]; simp
    have C0 := Lib.hid c0
    have c1 : wb.cell? ⟨w.heap.size, 1, none⟩ = some (.int .u64 (ev : Int)) := by rw [hwb]; simp
    have C1 := Lib.hid c1
    have c2 : wb.cell? ⟨w.heap.size, 2, none⟩ = some (.string s) := by rw [hwb]; simp
    have C2 := Lib.hid c2
    have c3 : wb.cell? ⟨w.heap.size, 3, none⟩ = some (.slice (some ⟨ab, o, none⟩) 2 c) := by rw [hwb]; simp
    have C3 := Lib.hid c3
    have HXB : Hid (Ext w wb) := Lib.hid (by rw [hwb]; exact (Ext.refl _).alloc _)
    have HX0 : Hid (Ext w0 wb) := Lib.hid (HX.out.trans HXB.out)
    have HA : Hid (Aft b v wb l v wb) := Lib.hid (Aft.ofExt (HBX.out.ext HXB.out) (Ext.refl _))
    have NB : Hid (w.heap.size ≠ b) := Lib.hid (by have := HBX.out.lt; omega)
    have NV : Hid (v.ownBlock ≠ some w.heap.size) := Lib.hid (fun q => by have := HBX.out.own q; omega)
    have HWB := Lib.hid hwb
    clear c0 c1 c2 c3 hwb
    go_enter Tryd.func96, Tryd.ntmps96
    go_wp2_with fail
    rw [← HWB.out]
    refine (LC.out _).mono ?_; rintro e1 wn ⟨rfl, x2⟩
    have HA := Lib.hid (HA.out.grow x2)
    clear x2
    have c0 := HA.out.cell C0.out NB.out NV.out
    have c3 := HA.out.cell C3.out NB.out NV.out
    obtain ⟨k0, k1, k2, k3⟩ := HK0.out _ (HA.out.ext HX0.out HP.out)
    go_wp2_with fail
    clear c0 c3 k0 k1 k2 k3
    refine (HW0.out _ _ _ L (HA.out.ext HX0.out HP.out) HA.out.bx (HA.out.past HX0.out.size HP.out) (by have q := HLEN.out; rw [HT.out] at q; (try simp only [List.length_append] at q ⊢); omega)).mono ?_; rintro e1 wn ⟨rfl, vn, ha⟩
    have HA := Lib.hid (HA.out.trans ha)
    clear ha
    have c0 := HA.out.cell C0.out NB.out NV.out
    go_wp2_with fail
    refine (BC.out _).mono ?_; rintro e1 wn2 ⟨rfl, rfl⟩
    clear c0
    go_wp2_with fail
    refine (WriteString_c b _ _ B _ HA.out.bx (by have q := HLEN.out; rw [HT.out] at q; rw [lenS]; (try simp only [List.length_append] at q ⊢); omega)).mono ?_; rintro e1 wn ⟨rfl, vn, ha⟩
    have HA := Lib.hid (HA.out.trans ha)
    clear ha
    have c0 := HA.out.cell C0.out NB.out NV.out
    have c1 := HA.out.cell C1.out NB.out NV.out
    have c2 := HA.out.cell C2.out NB.out NV.out
    have c3 := HA.out.cell C3.out NB.out NV.out
    obtain ⟨k0, k1, k2, k3⟩ := HK1.out _ (HA.out.ext HX0.out HP.out)
    go_wp2_with fail
    refine region_factsL [[], [], [(1, 25)], [(2, 26)], [(3, 27)], [], [(5, 29)], [(6, 30)]] [some 24, some 25, some 26, some 27, some 28, some 29, some 30, some 31] [true, false, false, true, false, false, false, false, false, false, false, false, false, false, false, false, false, false, false, false, false, false, false, false, false, false, false, false, false, false, false, false, false, false, false, false, false, false, false, false, false, false, false, false, false, false, false, false, false, false, false, false, false, false, false, false, false, false, false, false, false, false, false, false, false, false, false, false, false, false, false, false, false, false, false, false, false, false, false, false, false, false, false, false, false, false, false, false, false, false, false, false, false, false, false, false, false, false, false, false, false, false] (by kernel_rfl) (by kernel_rfl) (by kernel_rfl) ?_
    dsimp only [maskL]
    with_reducible apply FromM.eq
    · intro w' hx; (try dsimp only [List.nil_append, List.cons_append, DepsL, DepsL1, setO, setN, favs, opsOf]); go_wp2; exact OpPostE.some _ rfl rfl (Ext.refl _) rfl
    with_reducible apply FromM.eq
    · intro w' hx; (try dsimp only [List.nil_append, List.cons_append, DepsL, DepsL1, setO, setN, favs, opsOf]); go_wp2; exact OpPostE.some _ rfl rfl (Ext.refl _) rfl
    with_reducible apply FromM.eq
    · intro w' hx; have c0x := hx.cell c0; have c1x := hx.cell c1; have c2x := hx.cell c2; have c3x := hx.cell c3; have k0x := hx.cell k0; have k1x := hx.cell k1; have k2x := hx.cell k2; have k3x := hx.cell k3; (try dsimp only [List.nil_append, List.cons_append, DepsL, DepsL1, setO, setN, favs, opsOf]); go_wp2; exact OpPostE.some _ rfl rfl (Ext.refl _) rfl
    with_reducible apply FromM.eq
    · intro w' hx; (try dsimp only [List.nil_append, List.cons_append, DepsL, DepsL1, setO, setN, favs, opsOf]); go_wp2; exact OpPostE.some _ rfl rfl (Ext.refl _) rfl
    with_reducible apply FromM.eq
    · intro w' hx; have c0x := hx.cell c0; have c1x := hx.cell c1; have c2x := hx.cell c2; have c3x := hx.cell c3; have k0x := hx.cell k0; have k1x := hx.cell k1; have k2x := hx.cell k2; have k3x := hx.cell k3; (try dsimp only [List.nil_append, List.cons_append, DepsL, DepsL1, setO, setN, favs, opsOf]); go_wp2; exact OpPostE.some _ rfl rfl (Ext.refl _) rfl
    with_reducible apply FromM.eq
    · intro w' hx; have c0x := hx.cell c0; have c1x := hx.cell c1; have c2x := hx.cell c2; have c3x := hx.cell c3; have k0x := hx.cell k0; have k1x := hx.cell k1; have k2x := hx.cell k2; have k3x := hx.cell k3; (try dsimp only [List.nil_append, List.cons_append, DepsL, DepsL1, setO, setN, favs, opsOf]); go_wp2; exact OpPostE.some _ rfl rfl (Ext.refl _) rfl
    with_reducible apply FromM.eq
    · intro w' hx; (try dsimp only [List.nil_append, List.cons_append, DepsL, DepsL1, setO, setN, favs, opsOf]); refine op_call 81 [.tmp 29] _ _ _ rfl rfl rfl rfl rfl rfl (fun _ _ => Tryd.call81 _ _) (LC.out _) (fun e w2 h_ => ?_); obtain ⟨rfl, hb2⟩ := h_; exact ⟨_, rfl, hb2, rfl⟩
    with_reducible apply FromM.eq
    · intro w' hx; (try dsimp only [List.nil_append, List.cons_append, DepsL, DepsL1, setO, setN, favs, opsOf]); go_wp2; exact OpPostE.some _ rfl rfl (Ext.refl _) rfl
    with_reducible refine FromM.fin ?_
    intro w' hx
    (try dsimp only [List.nil_append, List.cons_append, EndL, DepsL1, setO, setN])
    have HA := Lib.hid (HA.out.grow hx)
    clear hx c0 c1 c2 c3 k0 k1 k2 k3
    go_wp2_with fail
    refine (HW1.out _ _ _ (L + 1) (HA.out.ext HX0.out HP.out) HA.out.bx (HA.out.past HX0.out.size HP.out) (by have q := HLEN.out; rw [HT.out] at q; (try simp only [List.length_append] at q ⊢); omega)).mono ?_; rintro e1 wn ⟨rfl, vn, ha⟩
    have HA := Lib.hid (HA.out.trans ha)
    clear ha
    go_wp2_with fail
    first | go_end0 | ((try simp only [Exit.inBlock, Exit.then]); refine bodyPost_ret (results_none rfl _ _ _) rfl ?_)
    refine ⟨rfl, vn, Aft.start HBX.out HXB.out ?_⟩
    have q := HA.out
    (try simp only [List.append_assoc] at q)
    rw [HT.out]
    exact q
theorem okSh_n {op : Int} {un uv nm : Bool} {n : Nat} (h : okSh op un uv nm n = true) (h8 : 8 ≤ op) : (op = 8 ∧ n = 2) ∨ (op = 9 ∧ n = 1) ∨ (op = 10 ∧ n = 1) ∨ (op = 20 ∧ n = 3) ∨ ((11 ≤ op ∧ op ≤ 19) ∧ n = 2) := by
  unfold okSh at h
  rw [if_neg (by omega), if_neg (by omega), if_neg (by omega), if_neg (by omega), if_neg (by omega), if_neg (by omega)] at h
  by_cases q : op = 9 ∨ op = 10
  · rw [if_pos q] at h
    simp only [Bool.and_eq_true, decide_eq_true_eq] at h
    omega
  · rw [if_neg q] at h
    by_cases q2 : op = 20
    · rw [if_pos q2] at h
      simp only [Bool.and_eq_true, decide_eq_true_eq] at h
      omega
    · rw [if_neg q2] at h
      by_cases q3 : op = 8 ∨ 11 ≤ op ∧ op ≤ 19
      · rw [if_pos q3] at h
        simp only [Bool.and_eq_true, decide_eq_true_eq] at h
        omega
      · rw [if_neg q3] at h; cases h
theorem writeOperator_c (e : E) (hok : okSh e.op (decide (e.name.size = 0)) (decide (e.val = 0)) (nameOk e.name) e.args.length = true) (h8 : 8 ≤ e.op) (hWA : ∀ (i : Nat) x, e.args[i]? = some x → WE x) : WBc 96 e := by
  rcases okSh_n hok h8 with ⟨h, n⟩ | ⟨h, n⟩ | ⟨h, n⟩ | ⟨h, n⟩ | ⟨h, n⟩
  · exact writeOperator_8 e h n hWA
  · exact writeOperator_9 e h n hWA
  · exact writeOperator_10 e h n hWA
  · exact writeOperator_20 e h n hWA
  · exact writeOperator_bin e h n hWA
set_option maxRecDepth 100000 in
set_option maxHeartbeats 4000000 in
theorem writeExpr_c (e : E) (hWB : WBc 82 e) : WE e := by
  intro w0 b l v w r he ht hx hb hp hlen
  have HX := Lib.hid hx
  have HBX := Lib.hid hb
  have HP := Lib.hid hp
  have HWB : Hid (∀ (l : List UInt8) (v : Value) (w : World), Ext w0 w → BX b l v w → Past w0.heap.size b v → l.length + (txB e).length ≤ 140737488355328 → Calls Tryd.prog 82 #[.pointer (some ⟨b, 0, none⟩), e.v] w fun x w' => x = .returned (.tuple #[]) ∧ ∃ v', Aft b v w (l ++ txB e) v' w') := Lib.hid (fun l v w h1 h2 h3 h4 => hWB w0 b l v w he ht h1 h2 h3 h4)
  have LC := Lib.hid (fun w' => level_c e.op e.val e.name e.a e.args.length e.cap w')
  have hlv := lvl_pos e.op
  have HT : Hid (par e.op r (txB e) = if lvl e.op < r then (⟨#[40]⟩ : ByteArray).data.toList ++ (txB e ++ (⟨#[41]⟩ : ByteArray).data.toList) else txB e) := Lib.hid rfl
  have HLEN := Lib.hid hlen
  unfold E.v at HWB ⊢
  obtain ⟨op, hop⟩ : ∃ q, q = e.op := ⟨_, rfl⟩
  obtain ⟨ev, hev⟩ : ∃ q, q = e.val := ⟨_, rfl⟩
  obtain ⟨s, hs⟩ : ∃ q, q = e.name := ⟨_, rfl⟩
  obtain ⟨a, ha⟩ : ∃ q, q = e.a := ⟨_, rfl⟩
  obtain ⟨c, hc⟩ : ∃ q, q = e.cap := ⟨_, rfl⟩
  obtain ⟨A, hA⟩ : ∃ q, q = e.args := ⟨_, rfl⟩
  obtain ⟨n, hn⟩ : ∃ q, q = A.length := ⟨_, rfl⟩
  rw [← hop, ← hev, ← hs, ← ha, ← hc, ← hA, ← hn] at HWB
  rw [← hop, ← hev, ← hs, ← ha, ← hc, ← hA, ← hn] at LC
  rw [← hop] at HT HLEN hlv
  rw [← hop, ← hev, ← hs, ← ha, ← hc, ← hA, ← hn]
  obtain ⟨T, hT⟩ : ∃ q, q = par op r (txB e) := ⟨_, rfl⟩
  rw [← hT] at HT HLEN ⊢
  obtain ⟨t, ht2⟩ : ∃ q, q = txB e := ⟨_, rfl⟩
  rw [← ht2] at HWB HT
  obtain ⟨L, hLv⟩ : ∃ q, q = lvl op := ⟨_, rfl⟩
  rw [← hLv] at LC HT hlv
  clear hop hev hs ha hc hA hn hT ht2 hLv hx hb hp ht he hlen hWB
  by_cases hr : L < r
  · have HT2 : Hid (T = (⟨#[40]⟩ : ByteArray).data.toList ++ (t ++ (⟨#[41]⟩ : ByteArray).data.toList)) := Lib.hid (by rw [HT.out, if_pos hr])
    clear HT
    have HT := Lib.hid HT2.out
    clear HT2
    have tx : decide (L < r) = true := decide_eq_true hr
    clear hr
    obtain ⟨wb, hwb⟩ : ∃ q, q = w.alloc (.cells #[.int .i64 op, .int .u64 (ev : Int), .string s, .slice a n c] 44) := ⟨_, rfl⟩
    have c0 : wb.cell? ⟨w.heap.size, 0, none⟩ = some (.int .i64 op) := by rw [hwb]; simp
    have C0 := Lib.hid c0
    have c1 : wb.cell? ⟨w.heap.size, 1, none⟩ = some (.int .u64 (ev : Int)) := by rw [hwb]; simp
    have C1 := Lib.hid c1
    have c2 : wb.cell? ⟨w.heap.size, 2, none⟩ = some (.string s) := by rw [hwb]; simp
    have C2 := Lib.hid c2
    have c3 : wb.cell? ⟨w.heap.size, 3, none⟩ = some (.slice a n c) := by rw [hwb]; simp
    have C3 := Lib.hid c3
    have HXB : Hid (Ext w wb) := Lib.hid (by rw [hwb]; exact (Ext.refl _).alloc _)
    have HX0 : Hid (Ext w0 wb) := Lib.hid (HX.out.trans HXB.out)
    have HA : Hid (Aft b v wb l v wb) := Lib.hid (Aft.ofExt (HBX.out.ext HXB.out) (Ext.refl _))
    have NB : Hid (w.heap.size ≠ b) := Lib.hid (by have := HBX.out.lt; omega)
    have NV : Hid (v.ownBlock ≠ some w.heap.size) := Lib.hid (fun q => by have := HBX.out.own q; omega)
    have HWBX := Lib.hid hwb
    clear c0 c1 c2 c3 hwb
    go_enter Tryd.func57, Tryd.ntmps57
    go_wp2_with fail
    rw [← HWBX.out]
    refine (LC.out _).mono ?_; rintro e1 wn ⟨rfl, x2⟩
    have HA := Lib.hid (HA.out.grow x2)
    clear x2
    go_wp2_with fail
    refine (WriteString_c b _ _ ⟨#[40]⟩ _ HA.out.bx (by have q := HLEN.out; rw [HT.out] at q; rw [lenS]; (try simp only [List.length_append] at q ⊢); omega)).mono ?_; rintro e1 wn ⟨rfl, vn, ha⟩
    have HA := Lib.hid (HA.out.trans ha)
    clear ha
    have c0 := HA.out.cell C0.out NB.out NV.out
    have c1 := HA.out.cell C1.out NB.out NV.out
    have c2 := HA.out.cell C2.out NB.out NV.out
    have c3 := HA.out.cell C3.out NB.out NV.out
    go_wp2_with fail
    refine (HWB.out _ _ _ (HA.out.ext HX0.out HP.out) HA.out.bx (HA.out.past HX0.out.size HP.out) (by have q := HLEN.out; rw [HT.out] at q; (try simp only [List.length_append] at q ⊢); omega)).mono ?_; rintro e1 wn ⟨rfl, vn, ha⟩
    have HA := Lib.hid (HA.out.trans ha)
    clear ha
    clear c0 c1 c2 c3
    go_wp2_with fail
    refine (WriteString_c b _ _ ⟨#[41]⟩ _ HA.out.bx (by have q := HLEN.out; rw [HT.out] at q; rw [lenS]; (try simp only [List.length_append] at q ⊢); omega)).mono ?_; rintro e1 wn ⟨rfl, vn, ha⟩
    have HA := Lib.hid (HA.out.trans ha)
    clear ha
    go_wp2_with fail
    first | go_end0 | ((try simp only [Exit.inBlock, Exit.then]); refine bodyPost_ret (results_none rfl _ _ _) rfl ?_)
    refine ⟨rfl, vn, Aft.start HBX.out HXB.out ?_⟩
    have q := HA.out
    (try simp only [List.append_assoc] at q)
    rw [HT.out]
    exact q
  · have HT2 : Hid (T = t) := Lib.hid (by rw [HT.out, if_neg hr])
    clear HT
    have HT := Lib.hid HT2.out
    clear HT2
    have tx : decide (L < r) = false := decide_eq_false hr
    clear hr
    obtain ⟨wb, hwb⟩ : ∃ q, q = w.alloc (.cells #[.int .i64 op, .int .u64 (ev : Int), .string s, .slice a n c] 44) := ⟨_, rfl⟩
    have c0 : wb.cell? ⟨w.heap.size, 0, none⟩ = some (.int .i64 op) := by rw [hwb]; simp
    have C0 := Lib.hid c0
    have c1 : wb.cell? ⟨w.heap.size, 1, none⟩ = some (.int .u64 (ev : Int)) := by rw [hwb]; simp
    have C1 := Lib.hid c1
    have c2 : wb.cell? ⟨w.heap.size, 2, none⟩ = some (.string s) := by rw [hwb]; simp
    have C2 := Lib.hid c2
    have c3 : wb.cell? ⟨w.heap.size, 3, none⟩ = some (.slice a n c) := by rw [hwb]; simp
    have C3 := Lib.hid c3
    have HXB : Hid (Ext w wb) := Lib.hid (by rw [hwb]; exact (Ext.refl _).alloc _)
    have HX0 : Hid (Ext w0 wb) := Lib.hid (HX.out.trans HXB.out)
    have HA : Hid (Aft b v wb l v wb) := Lib.hid (Aft.ofExt (HBX.out.ext HXB.out) (Ext.refl _))
    have NB : Hid (w.heap.size ≠ b) := Lib.hid (by have := HBX.out.lt; omega)
    have NV : Hid (v.ownBlock ≠ some w.heap.size) := Lib.hid (fun q => by have := HBX.out.own q; omega)
    have HWBX := Lib.hid hwb
    clear c0 c1 c2 c3 hwb
    go_enter Tryd.func57, Tryd.ntmps57
    go_wp2_with fail
    rw [← HWBX.out]
    refine (LC.out _).mono ?_; rintro e1 wn ⟨rfl, x2⟩
    have HA := Lib.hid (HA.out.grow x2)
    clear x2
    have c0 := HA.out.cell C0.out NB.out NV.out
    have c1 := HA.out.cell C1.out NB.out NV.out
    have c2 := HA.out.cell C2.out NB.out NV.out
    have c3 := HA.out.cell C3.out NB.out NV.out
    go_wp2_with fail
    refine (HWB.out _ _ _ (HA.out.ext HX0.out HP.out) HA.out.bx (HA.out.past HX0.out.size HP.out) (by have q := HLEN.out; rw [HT.out] at q; (try simp only [List.length_append] at q ⊢); omega)).mono ?_; rintro e1 wn ⟨rfl, vn, ha⟩
    have HA := Lib.hid (HA.out.trans ha)
    clear ha
    clear c0 c1 c2 c3
    go_wp2_with fail
    first | go_end0 | ((try simp only [Exit.inBlock, Exit.then]); refine bodyPost_ret (results_none rfl _ _ _) rfl ?_)
    refine ⟨rfl, vn, Aft.start HBX.out HXB.out ?_⟩
    have q := HA.out
    (try simp only [List.append_assoc] at q)
    rw [HT.out]
    exact q
/-- Every well-formed expression is written as its text says. -/
theorem writeAll : ∀ (m : Nat) (e : E), E.sz e < m → okE e = true → WE e := by
  intro m
  induction m with
  | zero => intro e h; exact absurd h (by omega)
  | succ m ih =>
    intro e hm hok
    rw [okE_eq, Bool.and_eq_true] at hok
    have hA : ∀ (i : Nat) x, e.args[i]? = some x → WE x := fun i x hx => ih x (by have := E.sz_arg hx; omega) (List.all_eq_true.1 hok.1 x (List.mem_of_getElem? hx))
    exact writeExpr_c e (writeBare_c e hok.2 (writeList_c e.args hA) (fun h8 => writeOperator_c e hok.2 h8 hA))
end Go.Proofs.YtcheigpejbmaoaaDoor
