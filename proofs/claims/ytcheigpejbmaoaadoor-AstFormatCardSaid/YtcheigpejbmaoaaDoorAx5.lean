/- Equality of expressions, statements, functions, programs: the document. Printed by gen/ast6.py. -/
import Derived.Test.YtcheigpejbmaoaaDoorAx4
namespace Go.Proofs.YtcheigpejbmaoaaDoor
open Go.RowKit
set_option maxRecDepth 100000 in
set_option maxHeartbeats 4000000 in
theorem SameExpr_n : ∀ (m : Nat) (x y : E), E.sz x < m → ∀ w, InE w x → InE w y → Calls Tryd.prog 60 #[x.v, y.v] w fun r w' => r = .returned (.bool (eqE x y)) ∧ Ext w w' := by
  intro m
  induction m with
  | zero => intro x y h; exact absurd h (by omega)
  | succ m ih =>
    intro x y hm w hx hy
    have IH := Lib.hid (fun (i : Nat) u v (hu : x.args[i]? = some u) => ih u v (by have := E.sz_arg hu; omega))
    have EQ := eqE_eq x y
    have HL := hx.l
    have HL' := hy.l
    have hcap := hx.l.2
    have hcap' := hy.l.2
    obtain ⟨R, hR⟩ : ∃ R, R = eqE x y := ⟨_, rfl⟩
    rw [← hR] at EQ ⊢
    unfold E.v
    clear hR hx hy hm ih
    obtain ⟨xq0, hxq0⟩ : ∃ q, q = x.op := ⟨_, rfl⟩
    obtain ⟨xq1, hxq1⟩ : ∃ q, q = x.val := ⟨_, rfl⟩
    obtain ⟨xq2, hxq2⟩ : ∃ q, q = x.name := ⟨_, rfl⟩
    obtain ⟨xq3, hxq3⟩ : ∃ q, q = x.a := ⟨_, rfl⟩
    obtain ⟨xq4, hxq4⟩ : ∃ q, q = x.args.length := ⟨_, rfl⟩
    obtain ⟨xq5, hxq5⟩ : ∃ q, q = x.cap := ⟨_, rfl⟩
    simp only [← hxq0, ← hxq1, ← hxq2, ← hxq3, ← hxq4, ← hxq5] at EQ HL hcap ⊢
    have HN := Lib.hid hxq4
    clear hxq0 hxq1 hxq2 hxq3 hxq4 hxq5
    obtain ⟨yq0, hyq0⟩ : ∃ q, q = y.op := ⟨_, rfl⟩
    obtain ⟨yq1, hyq1⟩ : ∃ q, q = y.val := ⟨_, rfl⟩
    obtain ⟨yq2, hyq2⟩ : ∃ q, q = y.name := ⟨_, rfl⟩
    obtain ⟨yq3, hyq3⟩ : ∃ q, q = y.a := ⟨_, rfl⟩
    obtain ⟨yq4, hyq4⟩ : ∃ q, q = y.args.length := ⟨_, rfl⟩
    obtain ⟨yq5, hyq5⟩ : ∃ q, q = y.cap := ⟨_, rfl⟩
    simp only [← hyq0, ← hyq1, ← hyq2, ← hyq3, ← hyq4, ← hyq5] at EQ HL' hcap' ⊢
    have HN' := Lib.hid hyq4
    clear hyq0 hyq1 hyq2 hyq3 hyq4 hyq5
    replace EQ := Lib.hid EQ
    replace HL := Lib.hid HL
    replace HL' := Lib.hid HL'
    by_cases e0 : xq0 = yq0
    · subst e0
      by_cases e1 : xq1 = yq1
      · subst e1
        by_cases e2 : xq2 = yq2
        · subst e2
          by_cases e3 : xq4 = yq4
          · subst e3
            have EL : Hid (eqL eqE x.args y.args = (x.args.zip y.args).all fun z => eqE z.1 z.2) := Lib.hid (by unfold eqL; rw [← HN.out, ← HN'.out, decide_eq_true rfl, Bool.true_and])
            have ZL : Hid ((x.args.zip y.args).length = xq4) := Lib.hid (by rw [List.length_zip, ← HN.out, ← HN'.out, Nat.min_self])
            go_enter Tryd.func60, Tryd.ntmps60
            go_wp2_with fail
            obtain ⟨w1, hw1⟩ : ∃ q, q = (w.alloc (.cells #[.int .i64 xq0, .int .u64 (xq1 : Int), .string xq2, .slice xq3 xq4 xq5] 44)).alloc (.cells #[.int .i64 xq0, .int .u64 (xq1 : Int), .string xq2, .slice yq3 xq4 yq5] 44) := ⟨_, rfl⟩
            have c3 : w1.cell? ⟨w.heap.size, 3, none⟩ = some (.slice xq3 xq4 xq5) := by rw [hw1]; simp
            have d3 : w1.cell? ⟨w.heap.size + 1, 3, none⟩ = some (.slice yq3 xq4 yq5) := by rw [hw1]; simp
            have X1 : Hid (Ext w w1) := Lib.hid (by rw [hw1]; exact ((Ext.refl _).alloc _).alloc _)
            rw [← hw1]
            clear hw1
            go_loopw [5] (EvRel (fun z => eqE z.1 z.2) (x.args.zip y.args) w1) (fun s _ => xq4 - (intOf s).toNat)
            case atStart => exact ⟨0, rfl, Nat.zero_le _, fun k x hk => absurd hk (by omega), Ext.refl _⟩
            case round =>
              obtain ⟨j, rfl, hj, hall, hext⟩ := hrel
              rw [ZL.out] at hj
              replace c3 := hext.cell c3
              replace d3 := hext.cell d3
              have HX : Hid (Ext w wr) := Lib.hid (X1.out.trans hext)
              have HW := Lib.hid hext
              have HA := Lib.hid hall
              clear hext hall
              by_cases hlt : j < xq4
              · obtain ⟨u, hxj⟩ := getE (l := x.args) (i := j) (by rw [← HN.out]; exact hlt)
                obtain ⟨v, hyj⟩ := getE (l := y.args) (i := j) (by rw [← HN'.out]; exact hlt)
                have HZ : Hid ((x.args.zip y.args)[j]? = some (u, v)) := Lib.hid (by rw [List.getElem?_zip_eq_some]; exact ⟨hxj, hyj⟩)
                obtain ⟨⟨b, o, rfl, k0, k1, k2, k3⟩, hin⟩ := (HL.out.to HX.out).at hxj
                obtain ⟨⟨b', o', rfl, m0, m1, m2, m3⟩, hin'⟩ := (HL'.out.to HX.out).at hyj
                have PC := IH.out j u v hxj
                obtain ⟨B, hB⟩ : ∃ B, B = eqE u v := ⟨_, rfl⟩
                rw [← hB] at PC
                have HB := Lib.hid hB
                have HIN := Lib.hid hin
                have HIN' := Lib.hid hin'
                clear hxj hyj hB hin hin'
                unfold E.v at PC
                obtain ⟨uq0, huq0⟩ : ∃ q, q = u.op := ⟨_, rfl⟩
                obtain ⟨uq1, huq1⟩ : ∃ q, q = u.val := ⟨_, rfl⟩
                obtain ⟨uq2, huq2⟩ : ∃ q, q = u.name := ⟨_, rfl⟩
                obtain ⟨uq3, huq3⟩ : ∃ q, q = u.a := ⟨_, rfl⟩
                obtain ⟨uq4, huq4⟩ : ∃ q, q = u.args.length := ⟨_, rfl⟩
                obtain ⟨uq5, huq5⟩ : ∃ q, q = u.cap := ⟨_, rfl⟩
                simp only [← huq0, ← huq1, ← huq2, ← huq3, ← huq4, ← huq5] at k0 k1 k2 k3 PC
                clear huq0 huq1 huq2 huq3 huq4 huq5
                obtain ⟨vq0, hvq0⟩ : ∃ q, q = v.op := ⟨_, rfl⟩
                obtain ⟨vq1, hvq1⟩ : ∃ q, q = v.val := ⟨_, rfl⟩
                obtain ⟨vq2, hvq2⟩ : ∃ q, q = v.name := ⟨_, rfl⟩
                obtain ⟨vq3, hvq3⟩ : ∃ q, q = v.a := ⟨_, rfl⟩
                obtain ⟨vq4, hvq4⟩ : ∃ q, q = v.args.length := ⟨_, rfl⟩
                obtain ⟨vq5, hvq5⟩ : ∃ q, q = v.cap := ⟨_, rfl⟩
                simp only [← hvq0, ← hvq1, ← hvq2, ← hvq3, ← hvq4, ← hvq5] at m0 m1 m2 m3 PC
                clear hvq0 hvq1 hvq2 hvq3 hvq4 hvq5
                replace PC := Lib.hid PC
                go_wp2_with fail
                refine region_factsL [[], [(0, 41)], [], [(1, 42), (2, 43)], [(3, 44)], [], [(5, 46)], [], [(6, 47), (7, 48)], [(8, 49)], [(4, 45), (9, 50)], [(10, 51)]] [some 41, some 42, some 43, some 44, some 45, some 46, some 47, some 48, some 49, some 50, some 51, some 52] [false, false, true, true, false, true, false, false, false, false, false, false, false, false, false, false, false, false, false, false, false, false, false, false, false, false, false, false, false, false, false, false, false, false, false, false, false, false, false, false, false, false, false, false, false, false, false, false, false, false, false, false, false] (by kernel_rfl) (by kernel_rfl) (by kernel_rfl) ?_
                dsimp only [maskL]
                with_reducible apply FromM.eq
                · intro w' hx; (try dsimp only [List.nil_append, List.cons_append, DepsL, DepsL1, setO, setN, favs, opsOf]); go_wp2; exact OpPostE.some _ rfl rfl (Ext.refl _) rfl
                with_reducible apply FromM.eq
                · intro w' hx; have c3x := hx.cell c3; have d3x := hx.cell d3; have k0x := hx.cell k0; have k1x := hx.cell k1; have k2x := hx.cell k2; have k3x := hx.cell k3; have m0x := hx.cell m0; have m1x := hx.cell m1; have m2x := hx.cell m2; have m3x := hx.cell m3; (try dsimp only [List.nil_append, List.cons_append, DepsL, DepsL1, setO, setN, favs, opsOf]); go_wp2; exact OpPostE.some _ rfl rfl (Ext.refl _) rfl
                with_reducible apply FromM.eq
                · intro w' hx; (try dsimp only [List.nil_append, List.cons_append, DepsL, DepsL1, setO, setN, favs, opsOf]); go_wp2; exact OpPostE.some _ rfl rfl (Ext.refl _) rfl
                with_reducible apply FromM.eq
                · intro w' hx; (try dsimp only [List.nil_append, List.cons_append, DepsL, DepsL1, setO, setN, favs, opsOf]); go_wp2; exact OpPostE.some _ rfl rfl (Ext.refl _) rfl
                with_reducible apply FromM.eq
                · intro w' hx; have c3x := hx.cell c3; have d3x := hx.cell d3; have k0x := hx.cell k0; have k1x := hx.cell k1; have k2x := hx.cell k2; have k3x := hx.cell k3; have m0x := hx.cell m0; have m1x := hx.cell m1; have m2x := hx.cell m2; have m3x := hx.cell m3; (try dsimp only [List.nil_append, List.cons_append, DepsL, DepsL1, setO, setN, favs, opsOf]); go_wp2; exact OpPostE.some _ rfl rfl (Ext.refl _) rfl
                with_reducible apply FromM.eq
                · intro w' hx; (try dsimp only [List.nil_append, List.cons_append, DepsL, DepsL1, setO, setN, favs, opsOf]); go_wp2; exact OpPostE.some _ rfl rfl (Ext.refl _) rfl
                with_reducible apply FromM.eq
                · intro w' hx; have c3x := hx.cell c3; have d3x := hx.cell d3; have k0x := hx.cell k0; have k1x := hx.cell k1; have k2x := hx.cell k2; have k3x := hx.cell k3; have m0x := hx.cell m0; have m1x := hx.cell m1; have m2x := hx.cell m2; have m3x := hx.cell m3; (try dsimp only [List.nil_append, List.cons_append, DepsL, DepsL1, setO, setN, favs, opsOf]); go_wp2; exact OpPostE.some _ rfl rfl (Ext.refl _) rfl
                with_reducible apply FromM.eq
                · intro w' hx; (try dsimp only [List.nil_append, List.cons_append, DepsL, DepsL1, setO, setN, favs, opsOf]); go_wp2; exact OpPostE.some _ rfl rfl (Ext.refl _) rfl
                with_reducible apply FromM.eq
                · intro w' hx; (try dsimp only [List.nil_append, List.cons_append, DepsL, DepsL1, setO, setN, favs, opsOf]); go_wp2; exact OpPostE.some _ rfl rfl (Ext.refl _) rfl
                with_reducible apply FromM.eq
                · intro w' hx; have c3x := hx.cell c3; have d3x := hx.cell d3; have k0x := hx.cell k0; have k1x := hx.cell k1; have k2x := hx.cell k2; have k3x := hx.cell k3; have m0x := hx.cell m0; have m1x := hx.cell m1; have m2x := hx.cell m2; have m3x := hx.cell m3; (try dsimp only [List.nil_append, List.cons_append, DepsL, DepsL1, setO, setN, favs, opsOf]); go_wp2; exact OpPostE.some _ rfl rfl (Ext.refl _) rfl
                with_reducible apply FromM.eq
                · intro w' hx; (try dsimp only [List.nil_append, List.cons_append, DepsL, DepsL1, setO, setN, favs, opsOf]); refine op_call 60 [.tmp 45, .tmp 50] _ _ _ rfl rfl rfl rfl rfl rfl (fun _ _ => Tryd.call60 _ _) (PC.out _ (HIN.out.to hx) (HIN'.out.to hx)) (fun e w2 h_ => ?_); obtain ⟨rfl, hb2⟩ := h_; exact ⟨_, rfl, hb2, rfl⟩
                with_reducible apply FromM.eq
                · intro w' hx; (try dsimp only [List.nil_append, List.cons_append, DepsL, DepsL1, setO, setN, favs, opsOf]); go_wp2; exact OpPostE.some _ rfl rfl (Ext.refl _) rfl
                with_reducible refine FromM.fin ?_
                intro w' hx
                (try dsimp only [List.nil_append, List.cons_append, EndL, DepsL1, setO, setN])
                have X2 := Lib.hid (HX.out.trans hx)
                have W2 := Lib.hid (HW.out.trans hx)
                clear hx k0 k1 k2 k3 m0 m1 m2 m3 c3 d3
                cases B
                · go_wp2_with fail
                  go_ret
                  have EA : eqL eqE x.args y.args = false := by rw [EL.out]; exact evNot HZ.out HB.out.symm
                  exact ⟨by go_light; simp [EQ.out, EA], X2.out⟩
                · go_wp2_with fail
                  go_roundw
                  case rel => exact ⟨j + 1, by go_num, by rw [ZL.out]; omega, evStep HZ.out HB.out.symm HA.out, W2.out⟩
                  case measure => simp [intOf]; omega
              · obtain rfl : j = xq4 := by omega
                go_wp2_with fail
                go_ret
                have EA : eqL eqE x.args y.args = true := by rw [EL.out]; exact evAll ZL.out HA.out
                exact ⟨by go_light; simp [EQ.out, EA, strEq], HX.out⟩
          · have t3 : ((xq4 : Int) == (yq4 : Int)) = false := beq_eq_false_iff_ne.2 (by omega)
            have d3 : decide (xq4 = yq4) = false := decide_eq_false e3
            have EL : Hid (eqL eqE x.args y.args = false) := Lib.hid (by unfold eqL; rw [← HN.out, ← HN'.out, d3, Bool.false_and])
            go_enter Tryd.func60, Tryd.ntmps60
            go_wp2_with fail
            go_ret
            exact ⟨by go_light; simp [EQ.out, EL.out], by first | exact Ext.refl _ | exact ((Ext.refl _).alloc _).alloc _⟩
        · have s2 : strEq xq2 yq2 = false := decide_eq_false e2
          have t2 : (xq2.toList == yq2.toList) = false := by rw [toL_eq]; exact s2
          go_enter Tryd.func60, Tryd.ntmps60
          go_wp2_with fail
          go_ret
          exact ⟨by go_light; simp [EQ.out, *], by first | exact Ext.refl _ | exact ((Ext.refl _).alloc _).alloc _⟩
      · have t1 : ((xq1 : Int) == (yq1 : Int)) = false := beq_eq_false_iff_ne.2 (by omega)
        have d1 : decide (xq1 = yq1) = false := decide_eq_false e1
        go_enter Tryd.func60, Tryd.ntmps60
        go_wp2_with fail
        go_ret
        exact ⟨by go_light; simp [EQ.out, *], by first | exact Ext.refl _ | exact ((Ext.refl _).alloc _).alloc _⟩
    · have t0 : (xq0 == yq0) = false := beq_eq_false_iff_ne.2 e0
      go_enter Tryd.func60, Tryd.ntmps60
      go_wp2_with fail
      go_ret
      exact ⟨by go_light; simp [EQ.out, *], by first | exact Ext.refl _ | exact ((Ext.refl _).alloc _).alloc _⟩
theorem SameExpr_c (x y : E) (w : World) (hx : InE w x) (hy : InE w y) : Calls Tryd.prog 60 #[x.v, y.v] w fun r w' => r = .returned (.bool (eqE x y)) ∧ Ext w w' := SameExpr_n _ x y (Nat.lt_succ_self _) w hx hy
end Go.Proofs.YtcheigpejbmaoaaDoor
