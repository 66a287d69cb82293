/- Equality of expressions, statements, functions, programs: the document. Printed by gen/ast6.py. -/
import Derived.Test.YtcheigpejbmaoaaDoorAx6
namespace Go.Proofs.YtcheigpejbmaoaaDoor
open Go.RowKit
set_option maxRecDepth 100000 in
set_option maxHeartbeats 8000000 in
theorem sameFunc_c (x y : F) (w : World) (hx : InF w x) (hy : InF w y) : Calls Tryd.prog 30 #[x.v, y.v] w fun r w' => r = .returned (.bool (eqFn x y)) ∧ Ext w w' := by
  have PS := fun w' h h' => SameStmts_c x.body y.body x.body.length y.body.length rfl rfl x.ba y.ba x.bc y.bc w' h h'
  have PE := fun w' h h' => SameExpr_c x.e y.e w' h h'
  have TE := fun W => run_neqT W x.t y.t
  have EQ : eqFn x y = (strEq x.name y.name && eqL eqP x.params y.params && eqT x.t y.t && eqL eqS x.body y.body && eqE x.e y.e) := rfl
  have HL := hx.body
  have HL' := hy.body
  have HE := hx.e
  have HE' := hy.e
  have HP := hx.ps
  have HP' := hy.ps
  have hcap : x.params.length ≤ 9223372036854775807 := Nat.le_trans hx.ps.2 (by decide)
  have hcap' : y.params.length ≤ 9223372036854775807 := Nat.le_trans hy.ps.2 (by decide)
  obtain ⟨B3, hB3⟩ : ∃ B, B = eqL eqS x.body y.body := ⟨_, rfl⟩
  obtain ⟨B2, hB2⟩ : ∃ B, B = eqE x.e y.e := ⟨_, rfl⟩
  obtain ⟨B1, hB1⟩ : ∃ B, B = eqT x.t y.t := ⟨_, rfl⟩
  obtain ⟨B0, hB0⟩ : ∃ B, B = eqL eqP x.params y.params := ⟨_, rfl⟩
  obtain ⟨R, hR⟩ : ∃ R, R = eqFn x y := ⟨_, rfl⟩
  rw [← hB3] at PS EQ
  rw [← hB2] at PE EQ
  rw [← hB1] at EQ
  rw [← hB0] at EQ
  simp only [← hB1] at TE
  rw [← hR] at EQ ⊢
  unfold F.v
  unfold E.v at PE
  unfold Ty.v at TE
  have HB0 := Lib.hid hB0
  clear hB0 hB1 hB2 hB3 hR hx hy
  obtain ⟨xq0, hxq0⟩ : ∃ q, q = x.name := ⟨_, rfl⟩
  obtain ⟨xq1, hxq1⟩ : ∃ q, q = x.pa := ⟨_, rfl⟩
  obtain ⟨xq2, hxq2⟩ : ∃ q, q = x.params.length := ⟨_, rfl⟩
  obtain ⟨xq3, hxq3⟩ : ∃ q, q = x.pc := ⟨_, rfl⟩
  obtain ⟨xq4, hxq4⟩ : ∃ q, q = x.t.k := ⟨_, rfl⟩
  obtain ⟨xq5, hxq5⟩ : ∃ q, q = x.t.b := ⟨_, rfl⟩
  obtain ⟨xq6, hxq6⟩ : ∃ q, q = x.t.n := ⟨_, rfl⟩
  obtain ⟨xq7, hxq7⟩ : ∃ q, q = x.ba := ⟨_, rfl⟩
  obtain ⟨xq8, hxq8⟩ : ∃ q, q = x.body.length := ⟨_, rfl⟩
  obtain ⟨xq9, hxq9⟩ : ∃ q, q = x.bc := ⟨_, rfl⟩
  obtain ⟨xq10, hxq10⟩ : ∃ q, q = x.e.op := ⟨_, rfl⟩
  obtain ⟨xq11, hxq11⟩ : ∃ q, q = x.e.val := ⟨_, rfl⟩
  obtain ⟨xq12, hxq12⟩ : ∃ q, q = x.e.name := ⟨_, rfl⟩
  obtain ⟨xq13, hxq13⟩ : ∃ q, q = x.e.a := ⟨_, rfl⟩
  obtain ⟨xq14, hxq14⟩ : ∃ q, q = x.e.args.length := ⟨_, rfl⟩
  obtain ⟨xq15, hxq15⟩ : ∃ q, q = x.e.cap := ⟨_, rfl⟩
  simp only [← hxq0, ← hxq1, ← hxq2, ← hxq3, ← hxq4, ← hxq5, ← hxq6, ← hxq7, ← hxq8, ← hxq9, ← hxq10, ← hxq11, ← hxq12, ← hxq13, ← hxq14, ← hxq15] at EQ PS PE TE HP HL hcap ⊢
  have HN := Lib.hid hxq2
  clear hxq0 hxq1 hxq2 hxq3 hxq4 hxq5 hxq6 hxq7 hxq8 hxq9 hxq10 hxq11 hxq12 hxq13 hxq14 hxq15
  obtain ⟨yq0, hyq0⟩ : ∃ q, q = y.name := ⟨_, rfl⟩
  obtain ⟨yq1, hyq1⟩ : ∃ q, q = y.pa := ⟨_, rfl⟩
  obtain ⟨yq2, hyq2⟩ : ∃ q, q = y.params.length := ⟨_, rfl⟩
  obtain ⟨yq3, hyq3⟩ : ∃ q, q = y.pc := ⟨_, rfl⟩
  obtain ⟨yq4, hyq4⟩ : ∃ q, q = y.t.k := ⟨_, rfl⟩
  obtain ⟨yq5, hyq5⟩ : ∃ q, q = y.t.b := ⟨_, rfl⟩
  obtain ⟨yq6, hyq6⟩ : ∃ q, q = y.t.n := ⟨_, rfl⟩
  obtain ⟨yq7, hyq7⟩ : ∃ q, q = y.ba := ⟨_, rfl⟩
  obtain ⟨yq8, hyq8⟩ : ∃ q, q = y.body.length := ⟨_, rfl⟩
  obtain ⟨yq9, hyq9⟩ : ∃ q, q = y.bc := ⟨_, rfl⟩
  obtain ⟨yq10, hyq10⟩ : ∃ q, q = y.e.op := ⟨_, rfl⟩
  obtain ⟨yq11, hyq11⟩ : ∃ q, q = y.e.val := ⟨_, rfl⟩
  obtain ⟨yq12, hyq12⟩ : ∃ q, q = y.e.name := ⟨_, rfl⟩
  obtain ⟨yq13, hyq13⟩ : ∃ q, q = y.e.a := ⟨_, rfl⟩
  obtain ⟨yq14, hyq14⟩ : ∃ q, q = y.e.args.length := ⟨_, rfl⟩
  obtain ⟨yq15, hyq15⟩ : ∃ q, q = y.e.cap := ⟨_, rfl⟩
  simp only [← hyq0, ← hyq1, ← hyq2, ← hyq3, ← hyq4, ← hyq5, ← hyq6, ← hyq7, ← hyq8, ← hyq9, ← hyq10, ← hyq11, ← hyq12, ← hyq13, ← hyq14, ← hyq15] at EQ PS PE TE HP' HL' hcap' ⊢
  have HN' := Lib.hid hyq2
  clear hyq0 hyq1 hyq2 hyq3 hyq4 hyq5 hyq6 hyq7 hyq8 hyq9 hyq10 hyq11 hyq12 hyq13 hyq14 hyq15
  replace EQ := Lib.hid EQ
  replace PS := Lib.hid PS
  replace PE := Lib.hid PE
  replace HL := Lib.hid HL
  replace HL' := Lib.hid HL'
  replace HE := Lib.hid HE
  replace HE' := Lib.hid HE'
  replace HP := Lib.hid HP
  replace HP' := Lib.hid HP'
  by_cases e0 : xq0 = yq0
  · subst e0
    cases B1
    · go_enter Tryd.func30, Tryd.ntmps30
      go_wp2_with fail
      go_ret
      exact ⟨by go_light; simp [EQ.out, strEq, *], by first | exact Ext.refl _ | exact ((Ext.refl _).alloc _).alloc _⟩
    · by_cases e2 : xq2 = yq2
      · subst e2
        go_enter Tryd.func30, Tryd.ntmps30
        go_wp2_with fail
        refine (PS.out _ (HL.out.to (((Ext.refl _).alloc _).alloc _)) (HL'.out.to (((Ext.refl _).alloc _).alloc _))).mono ?_; rintro e1 w1 ⟨rfl, x1⟩
        have c1 : w1.cell? ⟨w.heap.size, 1, none⟩ = some (.slice xq1 xq2 xq3) := x1.cell (by simp)
        have d1 : w1.cell? ⟨w.heap.size + 1, 1, none⟩ = some (.slice yq1 xq2 yq3) := x1.cell (by simp)
        have c6 : w1.cell? ⟨w.heap.size, 6, none⟩ = some (.int .i64 xq10) := x1.cell (by simp)
        have d6 : w1.cell? ⟨w.heap.size + 1, 6, none⟩ = some (.int .i64 yq10) := x1.cell (by simp)
        have c7 : w1.cell? ⟨w.heap.size, 7, none⟩ = some (.int .u64 (xq11 : Int)) := x1.cell (by simp)
        have d7 : w1.cell? ⟨w.heap.size + 1, 7, none⟩ = some (.int .u64 (yq11 : Int)) := x1.cell (by simp)
        have c8 : w1.cell? ⟨w.heap.size, 8, none⟩ = some (.string xq12) := x1.cell (by simp)
        have d8 : w1.cell? ⟨w.heap.size + 1, 8, none⟩ = some (.string yq12) := x1.cell (by simp)
        have c9 : w1.cell? ⟨w.heap.size, 9, none⟩ = some (.slice xq13 xq14 xq15) := x1.cell (by simp)
        have d9 : w1.cell? ⟨w.heap.size + 1, 9, none⟩ = some (.slice yq13 yq14 yq15) := x1.cell (by simp)
        have X := x1.box.box
        clear x1
        cases B3
        · go_wp2_with fail
          go_ret
          exact ⟨by go_light; simp [EQ.out, strEq, *], X⟩
        · go_wp2_with fail
          refine (PE.out _ (HE.out.to X) (HE'.out.to X)).mono ?_; rintro e2 w2 ⟨rfl, x2⟩
          replace c1 := x2.cell c1
          replace d1 := x2.cell d1
          clear c6 d6 c7 d7 c8 d8 c9 d9
          replace X := X.trans x2
          clear x2
          cases B2
          · go_wp2_with fail
            go_ret
            exact ⟨by go_light; simp [EQ.out, strEq, *], X⟩
          · have ZL1 : Hid ((x.params.zip y.params).length = xq2) := Lib.hid (by rw [List.length_zip, ← HN.out, ← HN'.out, Nat.min_self])
            have X1 := Lib.hid X
            clear X
            go_wp2_with fail
            go_loopw [5] (EvRel (fun z => eqP z.1 z.2) (x.params.zip y.params) w2) (fun s _ => xq2 - (intOf s).toNat)
            case atStart => exact ⟨0, rfl, Nat.zero_le _, fun k x hk => absurd hk (by omega), Ext.refl _⟩
            case round =>
              obtain ⟨j, rfl, hj, hall, hext⟩ := hrel
              rw [ZL1.out] at hj
              replace c1 := hext.cell c1
              replace d1 := hext.cell d1
              have HX := Lib.hid (X1.out.trans hext)
              have HW := Lib.hid hext
              have HA := Lib.hid hall
              clear hext hall
              by_cases hlt : j < xq2
              · obtain ⟨u, hxj⟩ := getE (l := x.params) (i := j) (by rw [← HN.out]; exact hlt)
                obtain ⟨v, hyj⟩ := getE (l := y.params) (i := j) (by rw [← HN'.out]; exact hlt)
                have HZ : Hid ((x.params.zip y.params)[j]? = some (u, v)) := Lib.hid (by rw [List.getElem?_zip_eq_some]; exact ⟨hxj, hyj⟩)
                obtain ⟨⟨b, o, ab, k0, k1, k2, k3⟩, hin⟩ := (HP.out.to HX.out).at hxj
                obtain ⟨⟨b', o', ab', m0, m1, m2, m3⟩, hin'⟩ := (HP'.out.to HX.out).at hyj
                subst ab
                subst ab'
                have PC := fun W => run_neqP W u v
                obtain ⟨B, hB⟩ : ∃ B, B = eqP u v := ⟨_, rfl⟩
                simp only [← hB] at PC
                have HB := Lib.hid hB
                have HIN := Lib.hid hin
                have HIN' := Lib.hid hin'
                clear hxj hyj hB hin hin'
                unfold P.v at PC
                obtain ⟨uq0, huq0⟩ : ∃ q, q = u.name := ⟨_, rfl⟩
                obtain ⟨uq1, huq1⟩ : ∃ q, q = u.t.k := ⟨_, rfl⟩
                obtain ⟨uq2, huq2⟩ : ∃ q, q = u.t.b := ⟨_, rfl⟩
                obtain ⟨uq3, huq3⟩ : ∃ q, q = u.t.n := ⟨_, rfl⟩
                simp only [← huq0, ← huq1, ← huq2, ← huq3] at k0 k1 k2 k3 PC
                clear huq0 huq1 huq2 huq3
                obtain ⟨vq0, hvq0⟩ : ∃ q, q = v.name := ⟨_, rfl⟩
                obtain ⟨vq1, hvq1⟩ : ∃ q, q = v.t.k := ⟨_, rfl⟩
                obtain ⟨vq2, hvq2⟩ : ∃ q, q = v.t.b := ⟨_, rfl⟩
                obtain ⟨vq3, hvq3⟩ : ∃ q, q = v.t.n := ⟨_, rfl⟩
                simp only [← hvq0, ← hvq1, ← hvq2, ← hvq3] at m0 m1 m2 m3 PC
                clear hvq0 hvq1 hvq2 hvq3
                go_wp2_with fail
                refine region_factsL [[], [(0, 50)], [], [(1, 51), (2, 52)], [(3, 53)], [], [(5, 55)], [], [(6, 56), (7, 57)], [(8, 58)], [(4, 54), (9, 59)]] [some 50, some 51, some 52, some 53, some 54, some 55, some 56, some 57, some 58, some 59, some 60] [false, false, true, true, false, true, false, false, false, false, false, false, false, false, false, false, false, false, false, false, false, false, false, false, false, false, false, false, false, false, false, false, false, false, false, false, false, false, false, false, false, false, false, false, false, false, false, false, false, false, false, false, false, false, false, false, false, false, false, false, false] (by kernel_rfl) (by kernel_rfl) (by kernel_rfl) ?_
                dsimp only [maskL]
                with_reducible apply FromM.eq
                · intro w' hx; (try dsimp only [List.nil_append, List.cons_append, DepsL, DepsL1, setO, setN, favs, opsOf]); go_wp2; exact OpPostE.some _ rfl rfl (Ext.refl _) rfl
                with_reducible apply FromM.eq
                · intro w' hx; have c1x := hx.cell c1; have d1x := hx.cell d1; have k0x := hx.cell k0; have k1x := hx.cell k1; have k2x := hx.cell k2; have k3x := hx.cell k3; have m0x := hx.cell m0; have m1x := hx.cell m1; have m2x := hx.cell m2; have m3x := hx.cell m3; (try dsimp only [List.nil_append, List.cons_append, DepsL, DepsL1, setO, setN, favs, opsOf]); go_wp2; exact OpPostE.some _ rfl rfl (Ext.refl _) rfl
                with_reducible apply FromM.eq
                · intro w' hx; (try dsimp only [List.nil_append, List.cons_append, DepsL, DepsL1, setO, setN, favs, opsOf]); go_wp2; exact OpPostE.some _ rfl rfl (Ext.refl _) rfl
                with_reducible apply FromM.eq
                · intro w' hx; (try dsimp only [List.nil_append, List.cons_append, DepsL, DepsL1, setO, setN, favs, opsOf]); go_wp2; exact OpPostE.some _ rfl rfl (Ext.refl _) rfl
                with_reducible apply FromM.eq
                · intro w' hx; have c1x := hx.cell c1; have d1x := hx.cell d1; have k0x := hx.cell k0; have k1x := hx.cell k1; have k2x := hx.cell k2; have k3x := hx.cell k3; have m0x := hx.cell m0; have m1x := hx.cell m1; have m2x := hx.cell m2; have m3x := hx.cell m3; (try dsimp only [List.nil_append, List.cons_append, DepsL, DepsL1, setO, setN, favs, opsOf]); go_wp2; exact OpPostE.some _ rfl rfl (Ext.refl _) rfl
                with_reducible apply FromM.eq
                · intro w' hx; (try dsimp only [List.nil_append, List.cons_append, DepsL, DepsL1, setO, setN, favs, opsOf]); go_wp2; exact OpPostE.some _ rfl rfl (Ext.refl _) rfl
                with_reducible apply FromM.eq
                · intro w' hx; have c1x := hx.cell c1; have d1x := hx.cell d1; have k0x := hx.cell k0; have k1x := hx.cell k1; have k2x := hx.cell k2; have k3x := hx.cell k3; have m0x := hx.cell m0; have m1x := hx.cell m1; have m2x := hx.cell m2; have m3x := hx.cell m3; (try dsimp only [List.nil_append, List.cons_append, DepsL, DepsL1, setO, setN, favs, opsOf]); go_wp2; exact OpPostE.some _ rfl rfl (Ext.refl _) rfl
                with_reducible apply FromM.eq
                · intro w' hx; (try dsimp only [List.nil_append, List.cons_append, DepsL, DepsL1, setO, setN, favs, opsOf]); go_wp2; exact OpPostE.some _ rfl rfl (Ext.refl _) rfl
                with_reducible apply FromM.eq
                · intro w' hx; (try dsimp only [List.nil_append, List.cons_append, DepsL, DepsL1, setO, setN, favs, opsOf]); go_wp2; exact OpPostE.some _ rfl rfl (Ext.refl _) rfl
                with_reducible apply FromM.eq
                · intro w' hx; have c1x := hx.cell c1; have d1x := hx.cell d1; have k0x := hx.cell k0; have k1x := hx.cell k1; have k2x := hx.cell k2; have k3x := hx.cell k3; have m0x := hx.cell m0; have m1x := hx.cell m1; have m2x := hx.cell m2; have m3x := hx.cell m3; (try dsimp only [List.nil_append, List.cons_append, DepsL, DepsL1, setO, setN, favs, opsOf]); go_wp2; exact OpPostE.some _ rfl rfl (Ext.refl _) rfl
                with_reducible apply FromM.eq
                · intro w' hx; (try dsimp only [List.nil_append, List.cons_append, DepsL, DepsL1, setO, setN, favs, opsOf]); go_wp2; exact OpPostE.some _ rfl rfl (Ext.refl _) rfl
                with_reducible refine FromM.fin ?_
                intro w' hx
                (try dsimp only [List.nil_append, List.cons_append, EndL, DepsL1, setO, setN])
                have X := HX.out.trans hx
                have W2 := Lib.hid (HW.out.trans hx)
                clear hx k0 k1 k2 k3 m0 m1 m2 m3 HX PC
                cases B
                · have B_ : B0 = false := by rw [HB0.out]; unfold eqL; rw [← HN.out, ← HN'.out, decide_eq_true rfl, Bool.true_and]; exact evNot HZ.out HB.out.symm
                  go_wp2_with fail
                  go_ret
                  exact ⟨by go_light; simp [EQ.out, strEq, *], X⟩
                · clear X
                  go_wp2_with fail
                  go_roundw
                  case rel => exact ⟨j + 1, by go_num, by rw [ZL1.out]; omega, evStep HZ.out HB.out.symm HA.out, W2.out⟩
                  case measure => simp [intOf]; omega
              · obtain rfl : j = xq2 := by omega
                have B_1 : B0 = true := by rw [HB0.out]; unfold eqL; rw [← HN.out, ← HN'.out, decide_eq_true rfl, Bool.true_and]; exact evAll ZL1.out HA.out
                have X := HX.out
                clear HX HW HA
                go_wp2_with fail
                go_ret
                exact ⟨by go_light; simp [EQ.out, strEq, *], X⟩
      · have t2 : ((xq2 : Int) == (yq2 : Int)) = false := beq_eq_false_iff_ne.2 (by omega)
        have d2 : decide (xq2 = yq2) = false := decide_eq_false e2
        have B_ : B0 = false := by rw [HB0.out]; unfold eqL; rw [← HN.out, ← HN'.out, d2, Bool.false_and]
        go_enter Tryd.func30, Tryd.ntmps30
        go_wp2_with fail
        go_ret
        exact ⟨by go_light; simp [EQ.out, strEq, *], by first | exact Ext.refl _ | exact ((Ext.refl _).alloc _).alloc _⟩
  · have s0 : strEq xq0 yq0 = false := decide_eq_false e0
    have t0 : (xq0.toList == yq0.toList) = false := by rw [toL_eq]; exact s0
    go_enter Tryd.func30, Tryd.ntmps30
    go_wp2_with fail
    go_ret
    exact ⟨by go_light; simp [EQ.out, strEq, *], by first | exact Ext.refl _ | exact ((Ext.refl _).alloc _).alloc _⟩
end Go.Proofs.YtcheigpejbmaoaaDoor
