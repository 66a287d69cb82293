/- Equality of expressions, statements, functions, programs: the document. Printed by gen/ast6.py. -/
import Derived.Test.YtcheigpejbmaoaaDoorAx7
namespace Go.Proofs.YtcheigpejbmaoaaDoor
open Go.RowKit
set_option maxRecDepth 100000 in
set_option maxHeartbeats 8000000 in
theorem Same_c (x y : G) (w : World) (hx : InG w x) (hy : InG w y) : Calls Tryd.prog 11 #[x.v, y.v] w fun r w' => r = .returned (.bool (eqG x y)) ∧ Ext w w' := by
  have PS := fun w' h h' => SameStmts_c x.body y.body x.body.length y.body.length rfl rfl x.ba y.ba x.bc y.bc w' h h'
  have CF := Lib.hid (fun (u v : F) (w' : World) h h' => sameFunc_c u v w' h h')
  have EQ : eqG x y = (eqL eqFn x.funcs y.funcs && eqL eqD x.decls y.decls && eqL eqS x.body y.body) := rfl
  have HL := hx.body
  have HL' := hy.body
  have HF := hx.fs
  have HF' := hy.fs
  have HD := hx.ds
  have HD' := hy.ds
  have hcap : x.funcs.length ≤ 9223372036854775807 := Nat.le_trans hx.fs.2 (by decide)
  have hcap' : y.funcs.length ≤ 9223372036854775807 := Nat.le_trans hy.fs.2 (by decide)
  have hcap2 : x.decls.length ≤ 9223372036854775807 := Nat.le_trans hx.ds.2 (by decide)
  have hcap2' : y.decls.length ≤ 9223372036854775807 := Nat.le_trans hy.ds.2 (by decide)
  obtain ⟨B2, hB2⟩ : ∃ B, B = eqL eqS x.body y.body := ⟨_, rfl⟩
  obtain ⟨B1, hB1⟩ : ∃ B, B = eqL eqD x.decls y.decls := ⟨_, rfl⟩
  obtain ⟨B0, hB0⟩ : ∃ B, B = eqL eqFn x.funcs y.funcs := ⟨_, rfl⟩
  obtain ⟨R, hR⟩ : ∃ R, R = eqG x y := ⟨_, rfl⟩
  rw [← hB2] at PS EQ
  rw [← hB1] at EQ
  rw [← hB0] at EQ
  rw [← hR] at EQ ⊢
  unfold G.v
  have HB0 := Lib.hid hB0
  have HB1 := Lib.hid hB1
  clear hB0 hB1 hB2 hR hx hy
  obtain ⟨xq0, hxq0⟩ : ∃ q, q = x.fa := ⟨_, rfl⟩
  obtain ⟨xq1, hxq1⟩ : ∃ q, q = x.funcs.length := ⟨_, rfl⟩
  obtain ⟨xq2, hxq2⟩ : ∃ q, q = x.fc := ⟨_, rfl⟩
  obtain ⟨xq3, hxq3⟩ : ∃ q, q = x.da := ⟨_, rfl⟩
  obtain ⟨xq4, hxq4⟩ : ∃ q, q = x.decls.length := ⟨_, rfl⟩
  obtain ⟨xq5, hxq5⟩ : ∃ q, q = x.dc := ⟨_, rfl⟩
  obtain ⟨xq6, hxq6⟩ : ∃ q, q = x.ba := ⟨_, rfl⟩
  obtain ⟨xq7, hxq7⟩ : ∃ q, q = x.body.length := ⟨_, rfl⟩
  obtain ⟨xq8, hxq8⟩ : ∃ q, q = x.bc := ⟨_, rfl⟩
  simp only [← hxq0, ← hxq1, ← hxq2, ← hxq3, ← hxq4, ← hxq5, ← hxq6, ← hxq7, ← hxq8] at EQ PS HF HD HL hcap hcap2 ⊢
  have HN := Lib.hid hxq1
  have HM := Lib.hid hxq4
  clear hxq0 hxq1 hxq2 hxq3 hxq4 hxq5 hxq6 hxq7 hxq8
  obtain ⟨yq0, hyq0⟩ : ∃ q, q = y.fa := ⟨_, rfl⟩
  obtain ⟨yq1, hyq1⟩ : ∃ q, q = y.funcs.length := ⟨_, rfl⟩
  obtain ⟨yq2, hyq2⟩ : ∃ q, q = y.fc := ⟨_, rfl⟩
  obtain ⟨yq3, hyq3⟩ : ∃ q, q = y.da := ⟨_, rfl⟩
  obtain ⟨yq4, hyq4⟩ : ∃ q, q = y.decls.length := ⟨_, rfl⟩
  obtain ⟨yq5, hyq5⟩ : ∃ q, q = y.dc := ⟨_, rfl⟩
  obtain ⟨yq6, hyq6⟩ : ∃ q, q = y.ba := ⟨_, rfl⟩
  obtain ⟨yq7, hyq7⟩ : ∃ q, q = y.body.length := ⟨_, rfl⟩
  obtain ⟨yq8, hyq8⟩ : ∃ q, q = y.bc := ⟨_, rfl⟩
  simp only [← hyq0, ← hyq1, ← hyq2, ← hyq3, ← hyq4, ← hyq5, ← hyq6, ← hyq7, ← hyq8] at EQ PS HF' HD' HL' hcap' hcap2' ⊢
  have HN' := Lib.hid hyq1
  have HM' := Lib.hid hyq4
  clear hyq0 hyq1 hyq2 hyq3 hyq4 hyq5 hyq6 hyq7 hyq8
  replace EQ := Lib.hid EQ
  replace PS := Lib.hid PS
  replace HL := Lib.hid HL
  replace HL' := Lib.hid HL'
  replace HF := Lib.hid HF
  replace HF' := Lib.hid HF'
  replace HD := Lib.hid HD
  replace HD' := Lib.hid HD'
  by_cases e0 : xq1 = yq1
  · subst e0
    by_cases e1 : xq4 = yq4
    · subst e1
      go_enter Tryd.func11, Tryd.ntmps11
      go_wp2_with fail
      refine (PS.out _ (HL.out.to (((Ext.refl _).alloc _).alloc _)) (HL'.out.to (((Ext.refl _).alloc _).alloc _))).mono ?_; rintro e1 w1 ⟨rfl, x1⟩
      have c0 : w1.cell? ⟨w.heap.size, 0, none⟩ = some (.slice xq0 xq1 xq2) := x1.cell (by simp)
      have d0 : w1.cell? ⟨w.heap.size + 1, 0, none⟩ = some (.slice yq0 xq1 yq2) := x1.cell (by simp)
      have c1 : w1.cell? ⟨w.heap.size, 1, none⟩ = some (.slice xq3 xq4 xq5) := x1.cell (by simp)
      have d1 : w1.cell? ⟨w.heap.size + 1, 1, none⟩ = some (.slice yq3 xq4 yq5) := x1.cell (by simp)
      have X := x1.box.box
      clear x1
      cases B2
      · go_wp2_with fail
        go_ret
        exact ⟨by go_light; simp [EQ.out, strEq, *], X⟩
      · have ZL1 : Hid ((x.funcs.zip y.funcs).length = xq1) := Lib.hid (by rw [List.length_zip, ← HN.out, ← HN'.out, Nat.min_self])
        have X1 := Lib.hid X
        clear X
        go_wp2_with fail
        go_loopw [5] (EvRel (fun z => eqFn z.1 z.2) (x.funcs.zip y.funcs) w1) (fun s _ => xq1 - (intOf s).toNat)
        case atStart => exact ⟨0, rfl, Nat.zero_le _, fun k x hk => absurd hk (by omega), Ext.refl _⟩
        case round =>
          obtain ⟨j, rfl, hj, hall, hext⟩ := hrel
          rw [ZL1.out] at hj
          replace c0 := hext.cell c0
          replace c1 := hext.cell c1
          replace d0 := hext.cell d0
          replace d1 := hext.cell d1
          have HX := Lib.hid (X1.out.trans hext)
          have HW := Lib.hid hext
          have HA := Lib.hid hall
          clear hext hall
          by_cases hlt : j < xq1
          · obtain ⟨u, hxj⟩ := getE (l := x.funcs) (i := j) (by rw [← HN.out]; exact hlt)
            obtain ⟨v, hyj⟩ := getE (l := y.funcs) (i := j) (by rw [← HN'.out]; exact hlt)
            have HZ : Hid ((x.funcs.zip y.funcs)[j]? = some (u, v)) := Lib.hid (by rw [List.getElem?_zip_eq_some]; exact ⟨hxj, hyj⟩)
            obtain ⟨⟨b, o, ab, k0, k1, k2, k3, k4, k5, k6, k7, k8, k9⟩, hin⟩ := (HF.out.to HX.out).at hxj
            obtain ⟨⟨b', o', ab', m0, m1, m2, m3, m4, m5, m6, m7, m8, m9⟩, hin'⟩ := (HF'.out.to HX.out).at hyj
            subst ab
            subst ab'
            have PC := CF.out u v
            obtain ⟨B, hB⟩ : ∃ B, B = eqFn u v := ⟨_, rfl⟩
            rw [← hB] at PC
            have HB := Lib.hid hB
            have HIN := Lib.hid hin
            have HIN' := Lib.hid hin'
            clear hxj hyj hB hin hin'
            unfold F.v at PC
            obtain ⟨uq0, huq0⟩ : ∃ q, q = u.name := ⟨_, rfl⟩
            obtain ⟨uq1, huq1⟩ : ∃ q, q = u.pa := ⟨_, rfl⟩
            obtain ⟨uq2, huq2⟩ : ∃ q, q = u.params.length := ⟨_, rfl⟩
            obtain ⟨uq3, huq3⟩ : ∃ q, q = u.pc := ⟨_, rfl⟩
            obtain ⟨uq4, huq4⟩ : ∃ q, q = u.t.k := ⟨_, rfl⟩
            obtain ⟨uq5, huq5⟩ : ∃ q, q = u.t.b := ⟨_, rfl⟩
            obtain ⟨uq6, huq6⟩ : ∃ q, q = u.t.n := ⟨_, rfl⟩
            obtain ⟨uq7, huq7⟩ : ∃ q, q = u.ba := ⟨_, rfl⟩
            obtain ⟨uq8, huq8⟩ : ∃ q, q = u.body.length := ⟨_, rfl⟩
            obtain ⟨uq9, huq9⟩ : ∃ q, q = u.bc := ⟨_, rfl⟩
            obtain ⟨uq10, huq10⟩ : ∃ q, q = u.e.op := ⟨_, rfl⟩
            obtain ⟨uq11, huq11⟩ : ∃ q, q = u.e.val := ⟨_, rfl⟩
            obtain ⟨uq12, huq12⟩ : ∃ q, q = u.e.name := ⟨_, rfl⟩
            obtain ⟨uq13, huq13⟩ : ∃ q, q = u.e.a := ⟨_, rfl⟩
            obtain ⟨uq14, huq14⟩ : ∃ q, q = u.e.args.length := ⟨_, rfl⟩
            obtain ⟨uq15, huq15⟩ : ∃ q, q = u.e.cap := ⟨_, rfl⟩
            simp only [← huq0, ← huq1, ← huq2, ← huq3, ← huq4, ← huq5, ← huq6, ← huq7, ← huq8, ← huq9, ← huq10, ← huq11, ← huq12, ← huq13, ← huq14, ← huq15] at k0 k1 k2 k3 k4 k5 k6 k7 k8 k9 PC
            clear huq0 huq1 huq2 huq3 huq4 huq5 huq6 huq7 huq8 huq9 huq10 huq11 huq12 huq13 huq14 huq15
            obtain ⟨vq0, hvq0⟩ : ∃ q, q = v.name := ⟨_, rfl⟩
            obtain ⟨vq1, hvq1⟩ : ∃ q, q = v.pa := ⟨_, rfl⟩
            obtain ⟨vq2, hvq2⟩ : ∃ q, q = v.params.length := ⟨_, rfl⟩
            obtain ⟨vq3, hvq3⟩ : ∃ q, q = v.pc := ⟨_, rfl⟩
            obtain ⟨vq4, hvq4⟩ : ∃ q, q = v.t.k := ⟨_, rfl⟩
            obtain ⟨vq5, hvq5⟩ : ∃ q, q = v.t.b := ⟨_, rfl⟩
            obtain ⟨vq6, hvq6⟩ : ∃ q, q = v.t.n := ⟨_, rfl⟩
            obtain ⟨vq7, hvq7⟩ : ∃ q, q = v.ba := ⟨_, rfl⟩
            obtain ⟨vq8, hvq8⟩ : ∃ q, q = v.body.length := ⟨_, rfl⟩
            obtain ⟨vq9, hvq9⟩ : ∃ q, q = v.bc := ⟨_, rfl⟩
            obtain ⟨vq10, hvq10⟩ : ∃ q, q = v.e.op := ⟨_, rfl⟩
            obtain ⟨vq11, hvq11⟩ : ∃ q, q = v.e.val := ⟨_, rfl⟩
            obtain ⟨vq12, hvq12⟩ : ∃ q, q = v.e.name := ⟨_, rfl⟩
            obtain ⟨vq13, hvq13⟩ : ∃ q, q = v.e.a := ⟨_, rfl⟩
            obtain ⟨vq14, hvq14⟩ : ∃ q, q = v.e.args.length := ⟨_, rfl⟩
            obtain ⟨vq15, hvq15⟩ : ∃ q, q = v.e.cap := ⟨_, rfl⟩
            simp only [← hvq0, ← hvq1, ← hvq2, ← hvq3, ← hvq4, ← hvq5, ← hvq6, ← hvq7, ← hvq8, ← hvq9, ← hvq10, ← hvq11, ← hvq12, ← hvq13, ← hvq14, ← hvq15] at m0 m1 m2 m3 m4 m5 m6 m7 m8 m9 PC
            clear hvq0 hvq1 hvq2 hvq3 hvq4 hvq5 hvq6 hvq7 hvq8 hvq9 hvq10 hvq11 hvq12 hvq13 hvq14 hvq15
            replace PC := Lib.hid PC
            go_wp2_with fail
            refine region_factsL [[], [(0, 38)], [], [(1, 39), (2, 40)], [(3, 41)], [], [(5, 43)], [], [(6, 44), (7, 45)], [(8, 46)], [(4, 42), (9, 47)], [(10, 48)]] [some 38, some 39, some 40, some 41, some 42, some 43, some 44, some 45, some 46, some 47, some 48, some 49] [false, false, true, true, false, true, false, false, false, false, false, false, false, false, false, false, false, false, false, false, false, false, false, false, false, false, false, false, false, false, false, false, false, false, false, false, false, false, false, false, false, false, false, false, false, false, false, false, false, false, false, false, false, false, false, false, false, false, false, false, false, false, false, false, false, false, false, false] (by kernel_rfl) (by kernel_rfl) (by kernel_rfl) ?_
            dsimp only [maskL]
            with_reducible apply FromM.eq
            · intro w' hx; (try dsimp only [List.nil_append, List.cons_append, DepsL, DepsL1, setO, setN, favs, opsOf]); go_wp2; exact OpPostE.some _ rfl rfl (Ext.refl _) rfl
            with_reducible apply FromM.eq
            · intro w' hx; have c0x := hx.cell c0; have c1x := hx.cell c1; have d0x := hx.cell d0; have d1x := hx.cell d1; have k0x := hx.cell k0; have k1x := hx.cell k1; have k2x := hx.cell k2; have k3x := hx.cell k3; have k4x := hx.cell k4; have k5x := hx.cell k5; have k6x := hx.cell k6; have k7x := hx.cell k7; have k8x := hx.cell k8; have k9x := hx.cell k9; have m0x := hx.cell m0; have m1x := hx.cell m1; have m2x := hx.cell m2; have m3x := hx.cell m3; have m4x := hx.cell m4; have m5x := hx.cell m5; have m6x := hx.cell m6; have m7x := hx.cell m7; have m8x := hx.cell m8; have m9x := hx.cell m9; (try dsimp only [List.nil_append, List.cons_append, DepsL, DepsL1, setO, setN, favs, opsOf]); go_wp2; exact OpPostE.some _ rfl rfl (Ext.refl _) rfl
            with_reducible apply FromM.eq
            · intro w' hx; (try dsimp only [List.nil_append, List.cons_append, DepsL, DepsL1, setO, setN, favs, opsOf]); go_wp2; exact OpPostE.some _ rfl rfl (Ext.refl _) rfl
            with_reducible apply FromM.eq
            · intro w' hx; (try dsimp only [List.nil_append, List.cons_append, DepsL, DepsL1, setO, setN, favs, opsOf]); go_wp2; exact OpPostE.some _ rfl rfl (Ext.refl _) rfl
            with_reducible apply FromM.eq
            · intro w' hx; have c0x := hx.cell c0; have c1x := hx.cell c1; have d0x := hx.cell d0; have d1x := hx.cell d1; have k0x := hx.cell k0; have k1x := hx.cell k1; have k2x := hx.cell k2; have k3x := hx.cell k3; have k4x := hx.cell k4; have k5x := hx.cell k5; have k6x := hx.cell k6; have k7x := hx.cell k7; have k8x := hx.cell k8; have k9x := hx.cell k9; have m0x := hx.cell m0; have m1x := hx.cell m1; have m2x := hx.cell m2; have m3x := hx.cell m3; have m4x := hx.cell m4; have m5x := hx.cell m5; have m6x := hx.cell m6; have m7x := hx.cell m7; have m8x := hx.cell m8; have m9x := hx.cell m9; (try dsimp only [List.nil_append, List.cons_append, DepsL, DepsL1, setO, setN, favs, opsOf]); go_wp2; exact OpPostE.some _ rfl rfl (Ext.refl _) rfl
            with_reducible apply FromM.eq
            · intro w' hx; (try dsimp only [List.nil_append, List.cons_append, DepsL, DepsL1, setO, setN, favs, opsOf]); go_wp2; exact OpPostE.some _ rfl rfl (Ext.refl _) rfl
            with_reducible apply FromM.eq
            · intro w' hx; have c0x := hx.cell c0; have c1x := hx.cell c1; have d0x := hx.cell d0; have d1x := hx.cell d1; have k0x := hx.cell k0; have k1x := hx.cell k1; have k2x := hx.cell k2; have k3x := hx.cell k3; have k4x := hx.cell k4; have k5x := hx.cell k5; have k6x := hx.cell k6; have k7x := hx.cell k7; have k8x := hx.cell k8; have k9x := hx.cell k9; have m0x := hx.cell m0; have m1x := hx.cell m1; have m2x := hx.cell m2; have m3x := hx.cell m3; have m4x := hx.cell m4; have m5x := hx.cell m5; have m6x := hx.cell m6; have m7x := hx.cell m7; have m8x := hx.cell m8; have m9x := hx.cell m9; (try dsimp only [List.nil_append, List.cons_append, DepsL, DepsL1, setO, setN, favs, opsOf]); go_wp2; exact OpPostE.some _ rfl rfl (Ext.refl _) rfl
            with_reducible apply FromM.eq
            · intro w' hx; (try dsimp only [List.nil_append, List.cons_append, DepsL, DepsL1, setO, setN, favs, opsOf]); go_wp2; exact OpPostE.some _ rfl rfl (Ext.refl _) rfl
            with_reducible apply FromM.eq
            · intro w' hx; (try dsimp only [List.nil_append, List.cons_append, DepsL, DepsL1, setO, setN, favs, opsOf]); go_wp2; exact OpPostE.some _ rfl rfl (Ext.refl _) rfl
            with_reducible apply FromM.eq
            · intro w' hx; have c0x := hx.cell c0; have c1x := hx.cell c1; have d0x := hx.cell d0; have d1x := hx.cell d1; have k0x := hx.cell k0; have k1x := hx.cell k1; have k2x := hx.cell k2; have k3x := hx.cell k3; have k4x := hx.cell k4; have k5x := hx.cell k5; have k6x := hx.cell k6; have k7x := hx.cell k7; have k8x := hx.cell k8; have k9x := hx.cell k9; have m0x := hx.cell m0; have m1x := hx.cell m1; have m2x := hx.cell m2; have m3x := hx.cell m3; have m4x := hx.cell m4; have m5x := hx.cell m5; have m6x := hx.cell m6; have m7x := hx.cell m7; have m8x := hx.cell m8; have m9x := hx.cell m9; (try dsimp only [List.nil_append, List.cons_append, DepsL, DepsL1, setO, setN, favs, opsOf]); go_wp2; exact OpPostE.some _ rfl rfl (Ext.refl _) rfl
            with_reducible apply FromM.eq
            · intro w' hx; (try dsimp only [List.nil_append, List.cons_append, DepsL, DepsL1, setO, setN, favs, opsOf]); refine op_call 30 [.tmp 42, .tmp 47] _ _ _ rfl rfl rfl rfl rfl rfl (fun _ _ => Tryd.call30 _ _) (PC.out _ (HIN.out.to hx) (HIN'.out.to hx)) (fun e w2 h_ => ?_); obtain ⟨rfl, hb2⟩ := h_; exact ⟨_, rfl, hb2, rfl⟩
            with_reducible apply FromM.eq
            · intro w' hx; (try dsimp only [List.nil_append, List.cons_append, DepsL, DepsL1, setO, setN, favs, opsOf]); go_wp2; exact OpPostE.some _ rfl rfl (Ext.refl _) rfl
            with_reducible refine FromM.fin ?_
            intro w' hx
            (try dsimp only [List.nil_append, List.cons_append, EndL, DepsL1, setO, setN])
            have X := HX.out.trans hx
            have W2 := Lib.hid (HW.out.trans hx)
            clear hx k0 k1 k2 k3 k4 k5 k6 k7 k8 k9 m0 m1 m2 m3 m4 m5 m6 m7 m8 m9 HX
            cases B
            · have B_ : B0 = false := by rw [HB0.out]; unfold eqL; rw [← HN.out, ← HN'.out, decide_eq_true rfl, Bool.true_and]; exact evNot HZ.out HB.out.symm
              go_wp2_with fail
              go_ret
              exact ⟨by go_light; simp [EQ.out, strEq, *], X⟩
            · clear X
              go_wp2_with fail
              go_roundw
              case rel => exact ⟨j + 1, by go_num, by rw [ZL1.out]; omega, evStep HZ.out HB.out.symm HA.out, W2.out⟩
              case measure => simp [intOf]; omega
          · obtain rfl : j = xq1 := by omega
            have B_1 : B0 = true := by rw [HB0.out]; unfold eqL; rw [← HN.out, ← HN'.out, decide_eq_true rfl, Bool.true_and]; exact evAll ZL1.out HA.out
            have X := HX.out
            clear HX HW HA
            have ZL2 : Hid ((x.decls.zip y.decls).length = xq4) := Lib.hid (by rw [List.length_zip, ← HM.out, ← HM'.out, Nat.min_self])
            have X2 := Lib.hid X
            clear X
            go_wp2_with fail
            go_loopw [6] (EvRel (fun z => eqD z.1 z.2) (x.decls.zip y.decls) wr) (fun s _ => xq4 - (intOf s).toNat)
            case atStart => exact ⟨0, rfl, Nat.zero_le _, fun k x hk => absurd hk (by omega), Ext.refl _⟩
            case round =>
              obtain ⟨j, rfl, hj, hall, hext⟩ := hrel
              rw [ZL2.out] at hj
              replace c1 := hext.cell c1
              replace d1 := hext.cell d1
              have HX := Lib.hid (X2.out.trans hext)
              have HW := Lib.hid hext
              have HA := Lib.hid hall
              clear hext hall
              by_cases hlt : j < xq4
              · obtain ⟨u, hxj⟩ := getE (l := x.decls) (i := j) (by rw [← HM.out]; exact hlt)
                obtain ⟨v, hyj⟩ := getE (l := y.decls) (i := j) (by rw [← HM'.out]; exact hlt)
                have HZ : Hid ((x.decls.zip y.decls)[j]? = some (u, v)) := Lib.hid (by rw [List.getElem?_zip_eq_some]; exact ⟨hxj, hyj⟩)
                obtain ⟨⟨b, o, ab, k0, k1, k2, k3, k4⟩, hin⟩ := (HD.out.to HX.out).at hxj
                obtain ⟨⟨b', o', ab', m0, m1, m2, m3, m4⟩, hin'⟩ := (HD'.out.to HX.out).at hyj
                subst ab
                subst ab'
                have PC := fun W => run_neqD W u v
                obtain ⟨B, hB⟩ : ∃ B, B = eqD u v := ⟨_, rfl⟩
                simp only [← hB] at PC
                have HB := Lib.hid hB
                have HIN := Lib.hid hin
                have HIN' := Lib.hid hin'
                clear hxj hyj hB hin hin'
                unfold D.v at PC
                obtain ⟨uq0, huq0⟩ : ∃ q, q = u.pub := ⟨_, rfl⟩
                obtain ⟨uq1, huq1⟩ : ∃ q, q = u.name := ⟨_, rfl⟩
                obtain ⟨uq2, huq2⟩ : ∃ q, q = u.t.k := ⟨_, rfl⟩
                obtain ⟨uq3, huq3⟩ : ∃ q, q = u.t.b := ⟨_, rfl⟩
                obtain ⟨uq4, huq4⟩ : ∃ q, q = u.t.n := ⟨_, rfl⟩
                simp only [← huq0, ← huq1, ← huq2, ← huq3, ← huq4] at k0 k1 k2 k3 k4 PC
                clear huq0 huq1 huq2 huq3 huq4
                obtain ⟨vq0, hvq0⟩ : ∃ q, q = v.pub := ⟨_, rfl⟩
                obtain ⟨vq1, hvq1⟩ : ∃ q, q = v.name := ⟨_, rfl⟩
                obtain ⟨vq2, hvq2⟩ : ∃ q, q = v.t.k := ⟨_, rfl⟩
                obtain ⟨vq3, hvq3⟩ : ∃ q, q = v.t.b := ⟨_, rfl⟩
                obtain ⟨vq4, hvq4⟩ : ∃ q, q = v.t.n := ⟨_, rfl⟩
                simp only [← hvq0, ← hvq1, ← hvq2, ← hvq3, ← hvq4] at m0 m1 m2 m3 m4 PC
                clear hvq0 hvq1 hvq2 hvq3 hvq4
                go_wp2_with fail
                refine region_factsL [[], [(0, 57)], [], [(1, 58), (2, 59)], [(3, 60)], [], [(5, 62)], [], [(6, 63), (7, 64)], [(8, 65)], [(4, 61), (9, 66)]] [some 57, some 58, some 59, some 60, some 61, some 62, some 63, some 64, some 65, some 66, some 67] [false, false, true, true, false, false, true, false, false, false, false, false, false, false, false, false, false, false, false, false, false, false, false, false, false, false, false, false, false, false, false, false, false, false, false, false, false, false, false, false, false, false, false, false, false, false, false, false, false, false, false, false, false, false, false, false, false, false, false, false, false, false, false, false, false, false, false, false] (by kernel_rfl) (by kernel_rfl) (by kernel_rfl) ?_
                dsimp only [maskL]
                with_reducible apply FromM.eq
                · intro w' hx; (try dsimp only [List.nil_append, List.cons_append, DepsL, DepsL1, setO, setN, favs, opsOf]); go_wp2; exact OpPostE.some _ rfl rfl (Ext.refl _) rfl
                with_reducible apply FromM.eq
                · intro w' hx; have c1x := hx.cell c1; have d1x := hx.cell d1; have k0x := hx.cell k0; have k1x := hx.cell k1; have k2x := hx.cell k2; have k3x := hx.cell k3; have k4x := hx.cell k4; have m0x := hx.cell m0; have m1x := hx.cell m1; have m2x := hx.cell m2; have m3x := hx.cell m3; have m4x := hx.cell m4; (try dsimp only [List.nil_append, List.cons_append, DepsL, DepsL1, setO, setN, favs, opsOf]); go_wp2; exact OpPostE.some _ rfl rfl (Ext.refl _) rfl
                with_reducible apply FromM.eq
                · intro w' hx; (try dsimp only [List.nil_append, List.cons_append, DepsL, DepsL1, setO, setN, favs, opsOf]); go_wp2; exact OpPostE.some _ rfl rfl (Ext.refl _) rfl
                with_reducible apply FromM.eq
                · intro w' hx; (try dsimp only [List.nil_append, List.cons_append, DepsL, DepsL1, setO, setN, favs, opsOf]); go_wp2; exact OpPostE.some _ rfl rfl (Ext.refl _) rfl
                with_reducible apply FromM.eq
                · intro w' hx; have c1x := hx.cell c1; have d1x := hx.cell d1; have k0x := hx.cell k0; have k1x := hx.cell k1; have k2x := hx.cell k2; have k3x := hx.cell k3; have k4x := hx.cell k4; have m0x := hx.cell m0; have m1x := hx.cell m1; have m2x := hx.cell m2; have m3x := hx.cell m3; have m4x := hx.cell m4; (try dsimp only [List.nil_append, List.cons_append, DepsL, DepsL1, setO, setN, favs, opsOf]); go_wp2; exact OpPostE.some _ rfl rfl (Ext.refl _) rfl
                with_reducible apply FromM.eq
                · intro w' hx; (try dsimp only [List.nil_append, List.cons_append, DepsL, DepsL1, setO, setN, favs, opsOf]); go_wp2; exact OpPostE.some _ rfl rfl (Ext.refl _) rfl
                with_reducible apply FromM.eq
                · intro w' hx; have c1x := hx.cell c1; have d1x := hx.cell d1; have k0x := hx.cell k0; have k1x := hx.cell k1; have k2x := hx.cell k2; have k3x := hx.cell k3; have k4x := hx.cell k4; have m0x := hx.cell m0; have m1x := hx.cell m1; have m2x := hx.cell m2; have m3x := hx.cell m3; have m4x := hx.cell m4; (try dsimp only [List.nil_append, List.cons_append, DepsL, DepsL1, setO, setN, favs, opsOf]); go_wp2; exact OpPostE.some _ rfl rfl (Ext.refl _) rfl
                with_reducible apply FromM.eq
                · intro w' hx; (try dsimp only [List.nil_append, List.cons_append, DepsL, DepsL1, setO, setN, favs, opsOf]); go_wp2; exact OpPostE.some _ rfl rfl (Ext.refl _) rfl
                with_reducible apply FromM.eq
                · intro w' hx; (try dsimp only [List.nil_append, List.cons_append, DepsL, DepsL1, setO, setN, favs, opsOf]); go_wp2; exact OpPostE.some _ rfl rfl (Ext.refl _) rfl
                with_reducible apply FromM.eq
                · intro w' hx; have c1x := hx.cell c1; have d1x := hx.cell d1; have k0x := hx.cell k0; have k1x := hx.cell k1; have k2x := hx.cell k2; have k3x := hx.cell k3; have k4x := hx.cell k4; have m0x := hx.cell m0; have m1x := hx.cell m1; have m2x := hx.cell m2; have m3x := hx.cell m3; have m4x := hx.cell m4; (try dsimp only [List.nil_append, List.cons_append, DepsL, DepsL1, setO, setN, favs, opsOf]); go_wp2; exact OpPostE.some _ rfl rfl (Ext.refl _) rfl
                with_reducible apply FromM.eq
                · intro w' hx; (try dsimp only [List.nil_append, List.cons_append, DepsL, DepsL1, setO, setN, favs, opsOf]); go_wp2; exact OpPostE.some _ rfl rfl (Ext.refl _) rfl
                with_reducible refine FromM.fin ?_
                intro w' hx
                (try dsimp only [List.nil_append, List.cons_append, EndL, DepsL1, setO, setN])
                have X := HX.out.trans hx
                have W2 := Lib.hid (HW.out.trans hx)
                clear hx k0 k1 k2 k3 k4 m0 m1 m2 m3 m4 HX PC
                cases B
                · have B_ : B1 = false := by rw [HB1.out]; unfold eqL; rw [← HM.out, ← HM'.out, decide_eq_true rfl, Bool.true_and]; exact evNot HZ.out HB.out.symm
                  go_wp2_with fail
                  go_ret
                  exact ⟨by go_light; simp [EQ.out, strEq, *], X⟩
                · clear X
                  go_wp2_with fail
                  go_roundw
                  case rel => exact ⟨j + 1, by go_num, by rw [ZL2.out]; omega, evStep HZ.out HB.out.symm HA.out, W2.out⟩
                  case measure => simp [intOf]; omega
              · obtain rfl : j = xq4 := by omega
                have B_2 : B1 = true := by rw [HB1.out]; unfold eqL; rw [← HM.out, ← HM'.out, decide_eq_true rfl, Bool.true_and]; exact evAll ZL2.out HA.out
                have X := HX.out
                clear HX HW HA
                go_wp2_with fail
                go_ret
                exact ⟨by go_light; simp [EQ.out, strEq, *], X⟩
    · have t1 : ((xq4 : Int) == (yq4 : Int)) = false := beq_eq_false_iff_ne.2 (by omega)
      have d1 : decide (xq4 = yq4) = false := decide_eq_false e1
      have B_ : B1 = false := by rw [HB1.out]; unfold eqL; rw [← HM.out, ← HM'.out, d1, Bool.false_and]
      go_enter Tryd.func11, Tryd.ntmps11
      go_wp2_with fail
      go_ret
      exact ⟨by go_light; simp [EQ.out, strEq, *], by first | exact Ext.refl _ | exact ((Ext.refl _).alloc _).alloc _⟩
  · have t0 : ((xq1 : Int) == (yq1 : Int)) = false := beq_eq_false_iff_ne.2 (by omega)
    have d0 : decide (xq1 = yq1) = false := decide_eq_false e0
    have B_ : B0 = false := by rw [HB0.out]; unfold eqL; rw [← HN.out, ← HN'.out, d0, Bool.false_and]
    go_enter Tryd.func11, Tryd.ntmps11
    go_wp2_with fail
    go_ret
    exact ⟨by go_light; simp [EQ.out, strEq, *], by first | exact Ext.refl _ | exact ((Ext.refl _).alloc _).alloc _⟩
end Go.Proofs.YtcheigpejbmaoaaDoor
