/- AstEqual: the walk. Printed by gen/ast10.py. -/
import Derived.Test.YtcheigpejbmaoaaDoorAxB
import Derived.Test.YtcheigpejbmaoaaDoorAxC
import Derived.Test.YtcheigpejbmaoaaDoorAx8
import Derived.Test.YtcheigpejbmaoaaDoorAsB
namespace Go.Proofs.YtcheigpejbmaoaaDoor
open Go.RowKit
set_option maxRecDepth 100000 in
set_option maxHeartbeats 8000000 in
theorem AstEqual_w (x y : G) (w : World) (ht : Tab w) (hx : InG w x) (hy : InG w y) : Calls Tryd.prog 3 #[x.v, y.v] w fun r w' => r = .returned (.bool true) ∧ Ext w w' := by
  have A1 := fun w' h h' => Equal_c x y w' h h'
  have A2 := fun w' h h' => Same_c x y w' h h'
  have A3 := fun w' h => Equal_c x x w' h h
  have A4 := fun w' h h' => Equal_c y x w' h h'
  simp only [eqG_refl] at A3
  simp only [eqG_comm y x] at A4
  have S1 := fun w' h => Small_c x w' h
  have S2 := fun w' h => Small_c y w' h
  have AC := Lib.hid awake_c
  obtain ⟨B, hB⟩ : ∃ B, B = eqG x y := ⟨_, rfl⟩
  simp only [← hB] at A1 A2 A4
  have HX := Lib.hid hx
  have HY := Lib.hid hy
  have HT := Lib.hid ht
  unfold G.v at *
  clear hB hx hy ht
  obtain ⟨xq0, hxq0⟩ : ∃ q, q = x.fa := ⟨_, rfl⟩
  obtain ⟨xq1, hxq1⟩ : ∃ q, q = x.funcs.length := ⟨_, rfl⟩
  obtain ⟨xq2, hxq2⟩ : ∃ q, q = x.fc := ⟨_, rfl⟩
  obtain ⟨xq3, hxq3⟩ : ∃ q, q = x.da := ⟨_, rfl⟩
  obtain ⟨xq4, hxq4⟩ : ∃ q, q = x.decls.length := ⟨_, rfl⟩
  obtain ⟨xq5, hxq5⟩ : ∃ q, q = x.dc := ⟨_, rfl⟩
  obtain ⟨xq6, hxq6⟩ : ∃ q, q = x.ba := ⟨_, rfl⟩
  obtain ⟨xq7, hxq7⟩ : ∃ q, q = x.body.length := ⟨_, rfl⟩
  obtain ⟨xq8, hxq8⟩ : ∃ q, q = x.bc := ⟨_, rfl⟩
  simp only [← hxq0, ← hxq1, ← hxq2, ← hxq3, ← hxq4, ← hxq5, ← hxq6, ← hxq7, ← hxq8] at A1 A2 A3 A4 S1 ⊢
  clear hxq0 hxq1 hxq2 hxq3 hxq4 hxq5 hxq6 hxq7 hxq8
  obtain ⟨yq0, hyq0⟩ : ∃ q, q = y.fa := ⟨_, rfl⟩
  obtain ⟨yq1, hyq1⟩ : ∃ q, q = y.funcs.length := ⟨_, rfl⟩
  obtain ⟨yq2, hyq2⟩ : ∃ q, q = y.fc := ⟨_, rfl⟩
  obtain ⟨yq3, hyq3⟩ : ∃ q, q = y.da := ⟨_, rfl⟩
  obtain ⟨yq4, hyq4⟩ : ∃ q, q = y.decls.length := ⟨_, rfl⟩
  obtain ⟨yq5, hyq5⟩ : ∃ q, q = y.dc := ⟨_, rfl⟩
  obtain ⟨yq6, hyq6⟩ : ∃ q, q = y.ba := ⟨_, rfl⟩
  obtain ⟨yq7, hyq7⟩ : ∃ q, q = y.body.length := ⟨_, rfl⟩
  obtain ⟨yq8, hyq8⟩ : ∃ q, q = y.bc := ⟨_, rfl⟩
  simp only [← hyq0, ← hyq1, ← hyq2, ← hyq3, ← hyq4, ← hyq5, ← hyq6, ← hyq7, ← hyq8] at A1 A2 A4 S2 ⊢
  clear hyq0 hyq1 hyq2 hyq3 hyq4 hyq5 hyq6 hyq7 hyq8
  replace A1 := Lib.hid A1
  replace A2 := Lib.hid A2
  replace A3 := Lib.hid A3
  replace A4 := Lib.hid A4
  replace S1 := Lib.hid S1
  replace S2 := Lib.hid S2
  go_enter Tryd.func3, Tryd.ntmps3
  go_wp2_with fail
  refine (AC.out _ (HT.out.ext (((Ext.refl _).alloc _).alloc _))).mono ?_; rintro e1 w1 ⟨rfl, x1⟩
  have c0 : w1.cell? ⟨w.heap.size, 0, none⟩ = some (.slice xq0 xq1 xq2) := x1.cell (by simp)
  have d0 : w1.cell? ⟨w.heap.size + 1, 0, none⟩ = some (.slice yq0 yq1 yq2) := x1.cell (by simp)
  have c1 : w1.cell? ⟨w.heap.size, 1, none⟩ = some (.slice xq3 xq4 xq5) := x1.cell (by simp)
  have d1 : w1.cell? ⟨w.heap.size + 1, 1, none⟩ = some (.slice yq3 yq4 yq5) := x1.cell (by simp)
  have c2 : w1.cell? ⟨w.heap.size, 2, none⟩ = some (.slice xq6 xq7 xq8) := x1.cell (by simp)
  have d2 : w1.cell? ⟨w.heap.size + 1, 2, none⟩ = some (.slice yq6 yq7 yq8) := x1.cell (by simp)
  have X := x1.box.box
  clear x1
  go_wp2_with fail
  refine (S1.out _ (HX.out.to X)).mono ?_; rintro e2 w2 ⟨b1, rfl, -, x2⟩
  replace c0 := x2.cell c0; replace d0 := x2.cell d0; replace c1 := x2.cell c1; replace d1 := x2.cell d1; replace c2 := x2.cell c2; replace d2 := x2.cell d2; replace X := X.trans x2; clear x2
  cases b1
  · go_wp2_with fail
    refine (AC.out _ (HT.out.ext X)).mono ?_; rintro e3 w3 ⟨rfl, x3⟩
    replace X := X.trans x3; clear x3 c0 d0 c1 d1 c2 d2
    go_wp2_with fail
    go_ret
    exact ⟨rfl, X⟩
  · go_wp2_with fail
    refine (S2.out _ (HY.out.to X)).mono ?_; rintro e3 w3 ⟨b2, rfl, -, x3⟩
    replace c0 := x3.cell c0; replace d0 := x3.cell d0; replace c1 := x3.cell c1; replace d1 := x3.cell d1; replace c2 := x3.cell c2; replace d2 := x3.cell d2; replace X := X.trans x3; clear x3
    cases b2
    · go_wp2_with fail
      refine (AC.out _ (HT.out.ext X)).mono ?_; rintro e4 w4 ⟨rfl, x4⟩
      replace X := X.trans x4; clear x4 c0 d0 c1 d1 c2 d2
      go_wp2_with fail
      go_ret
      exact ⟨rfl, X⟩
    · go_wp2_with fail
      have TB : (B == B) = true := by simp
      refine region_factsL [[], [], [(0, 18), (1, 19)], [], [], [(3, 21), (4, 22)], [(2, 20), (5, 23)], [(6, 24)], [(7, 25)], [(7, 25)], [(8, 26), (9, 27), (7, 25)], [(7, 25), (10, 28)], [(11, 29)], [(12, 30)], [(12, 30)], [(13, 31), (14, 32), (12, 30)], [(12, 30)], [(12, 30)], [(16, 34), (17, 35), (12, 30)], [(15, 33), (18, 36), (12, 30)], [(12, 30), (19, 37)], [(20, 38)]] [some 18, some 19, some 20, some 21, some 22, some 23, some 24, some 25, some 26, some 27, some 28, some 29, some 30, some 31, some 32, some 33, some 34, some 35, some 36, some 37, some 38, some 4] [false, false, true, true, false, false, false, false, false, false, false, false, false, false, false, false, false, false, false, false, false, false, false, false, false, false, false, false, false, false, false, false, false, false, false, false, false, false, false] (by kernel_rfl) (by kernel_rfl) (by kernel_rfl) ?_
      dsimp only [maskL]
      with_reducible apply FromM.eq
      · intro w' hx; have c0x := hx.cell c0; have d0x := hx.cell d0; have c1x := hx.cell c1; have d1x := hx.cell d1; have c2x := hx.cell c2; have d2x := hx.cell d2; (try dsimp only [List.nil_append, List.cons_append, DepsL, DepsL1, setO, setN, favs, opsOf]); go_wp2; exact OpPostE.some _ rfl rfl (Ext.refl _) rfl
      with_reducible apply FromM.eq
      · intro w' hx; have c0x := hx.cell c0; have d0x := hx.cell d0; have c1x := hx.cell c1; have d1x := hx.cell d1; have c2x := hx.cell c2; have d2x := hx.cell d2; (try dsimp only [List.nil_append, List.cons_append, DepsL, DepsL1, setO, setN, favs, opsOf]); go_wp2; exact OpPostE.some _ rfl rfl (Ext.refl _) rfl
      with_reducible apply FromM.eq
      · intro w' hx; (try dsimp only [List.nil_append, List.cons_append, DepsL, DepsL1, setO, setN, favs, opsOf]); refine op_call 10 [.tmp 18, .tmp 19] _ _ _ rfl rfl rfl rfl rfl rfl (fun _ _ => Tryd.call10 _ _) (A1.out _ (HX.out.to (X.trans hx)) (HY.out.to (X.trans hx))) (fun e w2 h_ => ?_); obtain ⟨rfl, hb2⟩ := h_; exact ⟨_, rfl, hb2, rfl⟩
      with_reducible apply FromM.eq
      · intro w' hx; have c0x := hx.cell c0; have d0x := hx.cell d0; have c1x := hx.cell c1; have d1x := hx.cell d1; have c2x := hx.cell c2; have d2x := hx.cell d2; (try dsimp only [List.nil_append, List.cons_append, DepsL, DepsL1, setO, setN, favs, opsOf]); go_wp2; exact OpPostE.some _ rfl rfl (Ext.refl _) rfl
      with_reducible apply FromM.eq
      · intro w' hx; have c0x := hx.cell c0; have d0x := hx.cell d0; have c1x := hx.cell c1; have d1x := hx.cell d1; have c2x := hx.cell c2; have d2x := hx.cell d2; (try dsimp only [List.nil_append, List.cons_append, DepsL, DepsL1, setO, setN, favs, opsOf]); go_wp2; exact OpPostE.some _ rfl rfl (Ext.refl _) rfl
      with_reducible apply FromM.eq
      · intro w' hx; (try dsimp only [List.nil_append, List.cons_append, DepsL, DepsL1, setO, setN, favs, opsOf]); refine op_call 11 [.tmp 21, .tmp 22] _ _ _ rfl rfl rfl rfl rfl rfl (fun _ _ => Tryd.call11 _ _) (A2.out _ (HX.out.to (X.trans hx)) (HY.out.to (X.trans hx))) (fun e w2 h_ => ?_); obtain ⟨rfl, hb2⟩ := h_; exact ⟨_, rfl, hb2, rfl⟩
      with_reducible apply FromM.eq
      · intro w' hx; (try dsimp only [List.nil_append, List.cons_append, DepsL, DepsL1, setO, setN, favs, opsOf]); go_wp2; exact OpPostE.some _ rfl rfl (Ext.refl _) rfl
      with_reducible apply FromM.eq
      · intro w' hx; (try dsimp only [List.nil_append, List.cons_append, DepsL, DepsL1, setO, setN, favs, opsOf]); go_wp2; exact OpPostE.some _ rfl rfl (Ext.refl _) rfl
      with_reducible apply FromM.eq
      · intro w' hx; have c0x := hx.cell c0; have d0x := hx.cell d0; have c1x := hx.cell c1; have d1x := hx.cell d1; have c2x := hx.cell c2; have d2x := hx.cell d2; (try dsimp only [List.nil_append, List.cons_append, DepsL, DepsL1, setO, setN, favs, opsOf]); go_wp2; exact OpPostE.some _ rfl rfl (Ext.refl _) rfl
      with_reducible apply FromM.eq
      · intro w' hx; have c0x := hx.cell c0; have d0x := hx.cell d0; have c1x := hx.cell c1; have d1x := hx.cell d1; have c2x := hx.cell c2; have d2x := hx.cell d2; (try dsimp only [List.nil_append, List.cons_append, DepsL, DepsL1, setO, setN, favs, opsOf]); go_wp2; exact OpPostE.some _ rfl rfl (Ext.refl _) rfl
      with_reducible apply FromM.eq
      · intro w' hx; (try dsimp only [List.nil_append, List.cons_append, DepsL, DepsL1, setO, setN, favs, opsOf]); go_wp2_with (go_at_call 10; refine (A3.out _ (HX.out.to (X.trans hx))).mono ?_; rintro e w2 ⟨rfl, hb2⟩); exact OpPostE.some _ rfl rfl hb2 rfl
      with_reducible apply FromM.eq
      · intro w' hx; (try dsimp only [List.nil_append, List.cons_append, DepsL, DepsL1, setO, setN, favs, opsOf]); go_wp2; exact OpPostE.some _ rfl rfl (Ext.refl _) rfl
      with_reducible apply FromM.eq
      · intro w' hx; (try dsimp only [List.nil_append, List.cons_append, DepsL, DepsL1, setO, setN, favs, opsOf]); go_wp2; exact OpPostE.some _ rfl rfl (Ext.refl _) rfl
      with_reducible apply FromM.eq
      · intro w' hx; have c0x := hx.cell c0; have d0x := hx.cell d0; have c1x := hx.cell c1; have d1x := hx.cell d1; have c2x := hx.cell c2; have d2x := hx.cell d2; (try dsimp only [List.nil_append, List.cons_append, DepsL, DepsL1, setO, setN, favs, opsOf]); go_wp2; exact OpPostE.some _ rfl rfl (Ext.refl _) rfl
      with_reducible apply FromM.eq
      · intro w' hx; have c0x := hx.cell c0; have d0x := hx.cell d0; have c1x := hx.cell c1; have d1x := hx.cell d1; have c2x := hx.cell c2; have d2x := hx.cell d2; (try dsimp only [List.nil_append, List.cons_append, DepsL, DepsL1, setO, setN, favs, opsOf]); go_wp2; exact OpPostE.some _ rfl rfl (Ext.refl _) rfl
      with_reducible apply FromM.eq
      · intro w' hx; (try dsimp only [List.nil_append, List.cons_append, DepsL, DepsL1, setO, setN, favs, opsOf]); go_wp2_with (go_at_call 10; refine (A4.out _ (HY.out.to (X.trans hx)) (HX.out.to (X.trans hx))).mono ?_; rintro e w2 ⟨rfl, hb2⟩); exact OpPostE.some _ rfl rfl hb2 rfl
      with_reducible apply FromM.eq
      · intro w' hx; have c0x := hx.cell c0; have d0x := hx.cell d0; have c1x := hx.cell c1; have d1x := hx.cell d1; have c2x := hx.cell c2; have d2x := hx.cell d2; (try dsimp only [List.nil_append, List.cons_append, DepsL, DepsL1, setO, setN, favs, opsOf]); go_wp2; exact OpPostE.some _ rfl rfl (Ext.refl _) rfl
      with_reducible apply FromM.eq
      · intro w' hx; have c0x := hx.cell c0; have d0x := hx.cell d0; have c1x := hx.cell c1; have d1x := hx.cell d1; have c2x := hx.cell c2; have d2x := hx.cell d2; (try dsimp only [List.nil_append, List.cons_append, DepsL, DepsL1, setO, setN, favs, opsOf]); go_wp2; exact OpPostE.some _ rfl rfl (Ext.refl _) rfl
      with_reducible apply FromM.eq
      · intro w' hx; (try dsimp only [List.nil_append, List.cons_append, DepsL, DepsL1, setO, setN, favs, opsOf]); go_wp2_with (go_at_call 10; refine (A1.out _ (HX.out.to (X.trans hx)) (HY.out.to (X.trans hx))).mono ?_; rintro e w2 ⟨rfl, hb2⟩); exact OpPostE.some _ rfl rfl hb2 rfl
      with_reducible apply FromM.eq
      · intro w' hx; (try dsimp only [List.nil_append, List.cons_append, DepsL, DepsL1, setO, setN, favs, opsOf]); go_wp2; exact OpPostE.some _ rfl rfl (Ext.refl _) rfl
      with_reducible apply FromM.eq
      · intro w' hx; (try dsimp only [List.nil_append, List.cons_append, DepsL, DepsL1, setO, setN, favs, opsOf]); go_wp2; exact OpPostE.some _ rfl rfl (Ext.refl _) rfl
      with_reducible apply FromM.eq
      · intro w' hx; (try dsimp only [List.nil_append, List.cons_append, DepsL, DepsL1, setO, setN, favs, opsOf]); go_wp2; exact OpPostE.some _ rfl rfl (Ext.refl _) rfl
      with_reducible refine FromM.fin ?_
      intro w' hx
      (try dsimp only [List.nil_append, List.cons_append, EndL, DepsL1, setO, setN])
      replace X := X.trans hx
      clear hx c0 d0 c1 d1 c2 d2
      go_wp2_with fail
      go_ret
      exact ⟨rfl, X⟩
end Go.Proofs.YtcheigpejbmaoaaDoor
