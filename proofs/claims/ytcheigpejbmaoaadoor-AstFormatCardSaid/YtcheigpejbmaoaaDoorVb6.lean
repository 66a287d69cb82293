/- Valid: the document. Printed by gen/val7.py. -/
import Derived.Test.YtcheigpejbmaoaaDoorVb4
import Derived.Test.YtcheigpejbmaoaaDoorVb5
import Derived.Test.YtcheigpejbmaoaaDoorVa4
namespace Go.Proofs.YtcheigpejbmaoaaDoor
open Go.RowKit
set_option maxRecDepth 100000 in
set_option maxHeartbeats 16000000 in
theorem RValid_c (x : G) (hwt : wtG x ≤ 1000000000) (w : World) (hx : InG w x) : Calls Tryd.prog 13 #[x.v] w fun r w' => r = .returned (.int .i64 (valG x)) ∧ Ext w w' := by
  rw [← valR_eq]
  have hwt2 : wtSs x.body + x.decls.length + x.funcs.length + sumL wtF x.funcs + sumL nmD x.decls ≤ 1000000000 := hwt
  have HWT : Hid (∀ (f : F) (i : Nat), x.funcs[i]? = some f → wtSs f.body + wtE f.e ≤ 1000000000) := Lib.hid (fun f i hf => by
    have := sumL_get wtF hf
    have e : wtF f = f.name.size + f.params.length + wtSs f.body + wtE f.e + sumL nmP f.params := rfl
    omega)
  have HD40 : Hid (∀ (l : List S), wtSs l ≤ 1000000000 → ∀ (n : Nat) (_ : l.length = n) (a : Option Addr) (c : Nat) (w : World), InB w a l → Calls Tryd.prog 42 #[.slice a n c, .int .i64 40] w fun r w' => r = .returned (.bool (l.any (dpS 40))) ∧ Ext w w') := Lib.hid (RDeeper_c 40 (Nat.le_refl _))
  have DD := fun w' h => HD40.out x.body (by omega) x.body.length rfl x.ba x.bc w' h
  have SS := fun w' h => RStmts_c x.body x.body.length rfl x.ba x.bc w' h
  have EQ : valR x = (if (x.funcs.all okF && (x.decls.all okD && x.body.all okS)) = true then (if (x.funcs.all pFn && !(x.body.any (dpS 40))) = true then 0 else 3) else 1) := rfl
  have HF := hx.fs
  have HD := hx.ds
  have HL := hx.body
  have hcap : x.funcs.length ≤ 9223372036854775807 := Nat.le_trans hx.fs.2 (by decide)
  have hcap2 : x.decls.length ≤ 9223372036854775807 := Nat.le_trans hx.ds.2 (by decide)
  obtain ⟨R, hR⟩ : ∃ R, R = valR x := ⟨_, rfl⟩
  rw [← hR] at EQ ⊢
  unfold G.v
  obtain ⟨Bs, hBs⟩ : ∃ q, q = x.body.all okS := ⟨_, rfl⟩
  obtain ⟨Bh, hBh⟩ : ∃ q, q = x.body.any (dpS 40) := ⟨_, rfl⟩
  simp only [← hBs, ← hBh] at EQ SS DD
  clear hBs hBh hR hx hwt hwt2
  obtain ⟨xq0, hxq0⟩ : ∃ q, q = x.fa := ⟨_, rfl⟩
  obtain ⟨xq1, hxq1⟩ : ∃ q, q = x.funcs.length := ⟨_, rfl⟩
  obtain ⟨xq2, hxq2⟩ : ∃ q, q = x.fc := ⟨_, rfl⟩
  obtain ⟨xq3, hxq3⟩ : ∃ q, q = x.da := ⟨_, rfl⟩
  obtain ⟨xq4, hxq4⟩ : ∃ q, q = x.decls.length := ⟨_, rfl⟩
  obtain ⟨xq5, hxq5⟩ : ∃ q, q = x.dc := ⟨_, rfl⟩
  obtain ⟨xq6, hxq6⟩ : ∃ q, q = x.ba := ⟨_, rfl⟩
  obtain ⟨xq7, hxq7⟩ : ∃ q, q = x.body.length := ⟨_, rfl⟩
  obtain ⟨xq8, hxq8⟩ : ∃ q, q = x.bc := ⟨_, rfl⟩
  simp only [← hxq0, ← hxq1, ← hxq2, ← hxq3, ← hxq4, ← hxq5, ← hxq6, ← hxq7, ← hxq8] at SS DD HF HD HL hcap hcap2 ⊢
  have HN := Lib.hid hxq1
  have HM := Lib.hid hxq4
  clear hxq0 hxq1 hxq2 hxq3 hxq4 hxq5 hxq6 hxq7 hxq8
  replace EQ := Lib.hid EQ
  replace SS := Lib.hid SS
  replace DD := Lib.hid DD
  replace HF := Lib.hid HF
  replace HD := Lib.hid HD
  replace HL := Lib.hid HL
  go_enter Tryd.func13, Tryd.ntmps13
  go_wp2_with fail
  obtain ⟨w1, hw1⟩ : ∃ q, q = w.alloc (.cells #[.slice xq0 xq1 xq2, .slice xq3 xq4 xq5, .slice xq6 xq7 xq8] 26) := ⟨_, rfl⟩
  have c0 : w1.cell? ⟨w.heap.size, 0, none⟩ = some (.slice xq0 xq1 xq2) := by rw [hw1]; simp
  have c1 : w1.cell? ⟨w.heap.size, 1, none⟩ = some (.slice xq3 xq4 xq5) := by rw [hw1]; simp
  have c2 : w1.cell? ⟨w.heap.size, 2, none⟩ = some (.slice xq6 xq7 xq8) := by rw [hw1]; simp
  have X : Ext w w1 := by rw [hw1]; exact (Ext.refl _).alloc _
  rw [← hw1]
  clear hw1
  have XB1 := Lib.hid X
  clear X
  go_wp2_with fail
  go_loopw [3] (EvRel okF x.funcs w1) (fun s _ => xq1 - (intOf s).toNat)
  case atStart => exact ⟨0, rfl, Nat.zero_le _, fun k x hk => absurd hk (by omega), Ext.refl _⟩
  case round =>
    obtain ⟨j, rfl, hj, hall, hext⟩ := hrel
    rw [← HN.out] at hj
    replace c0 := hext.cell c0
    replace c1 := hext.cell c1
    replace c2 := hext.cell c2
    have HX := Lib.hid hext
    have HA := Lib.hid hall
    clear hext hall
    by_cases hlt : j < xq1
    · obtain ⟨u, hxj⟩ := getE (l := x.funcs) (i := j) (by rw [← HN.out]; exact hlt)
      obtain ⟨⟨b, o, rfl, k0, k1, k2, k3, k4, k5, k6, k7, k8, k9⟩, hin⟩ := (HF.out.to (XB1.out.trans HX.out)).at hxj
      have HXJ := Lib.hid hxj
      have HIN := Lib.hid hin
      clear hin
      have PC := fun w' h => formed_c u w' h
      obtain ⟨B, hB⟩ : ∃ q, q = okF u := ⟨_, rfl⟩
      simp only [← hB] at PC
      have HB := Lib.hid hB
      clear hB hxj
      unfold F.v at PC
      obtain ⟨uq0, huq0⟩ : ∃ q, q = u.name := ⟨_, rfl⟩
      obtain ⟨uq1, huq1⟩ : ∃ q, q = u.pa := ⟨_, rfl⟩
      obtain ⟨uq2, huq2⟩ : ∃ q, q = u.params.length := ⟨_, rfl⟩
      obtain ⟨uq3, huq3⟩ : ∃ q, q = u.pc := ⟨_, rfl⟩
      obtain ⟨uq4, huq4⟩ : ∃ q, q = u.t.k := ⟨_, rfl⟩
      obtain ⟨uq5, huq5⟩ : ∃ q, q = u.t.b := ⟨_, rfl⟩
      obtain ⟨uq6, huq6⟩ : ∃ q, q = u.t.n := ⟨_, rfl⟩
      obtain ⟨uq7, huq7⟩ : ∃ q, q = u.ba := ⟨_, rfl⟩
      obtain ⟨uq8, huq8⟩ : ∃ q, q = u.body.length := ⟨_, rfl⟩
      obtain ⟨uq9, huq9⟩ : ∃ q, q = u.bc := ⟨_, rfl⟩
      obtain ⟨uq10, huq10⟩ : ∃ q, q = u.e.op := ⟨_, rfl⟩
      obtain ⟨uq11, huq11⟩ : ∃ q, q = u.e.val := ⟨_, rfl⟩
      obtain ⟨uq12, huq12⟩ : ∃ q, q = u.e.name := ⟨_, rfl⟩
      obtain ⟨uq13, huq13⟩ : ∃ q, q = u.e.a := ⟨_, rfl⟩
      obtain ⟨uq14, huq14⟩ : ∃ q, q = u.e.args.length := ⟨_, rfl⟩
      obtain ⟨uq15, huq15⟩ : ∃ q, q = u.e.cap := ⟨_, rfl⟩
      simp only [← huq0, ← huq1, ← huq2, ← huq3, ← huq4, ← huq5, ← huq6, ← huq7, ← huq8, ← huq9, ← huq10, ← huq11, ← huq12, ← huq13, ← huq14, ← huq15] at k0 k1 k2 k3 k4 k5 k6 k7 k8 k9 PC
      clear huq0 huq1 huq2 huq3 huq4 huq5 huq6 huq7 huq8 huq9 huq10 huq11 huq12 huq13 huq14 huq15
      replace PC := Lib.hid PC
      go_wp2_with fail
      refine (PC.out _ HIN.out).mono ?_; rintro e2 w2 ⟨rfl, x2⟩
      replace c0 := x2.cell c0
      replace c1 := x2.cell c1
      replace c2 := x2.cell c2
      have X2 := Lib.hid (HX.out.trans x2)
      clear x2 k0 k1 k2 k3 k4 k5 k6 k7 k8 k9
      cases B
      · have PB : okF u = false := HB.out.symm
        have X := XB1.out.trans X2.out
        have ER : Hid (R = 1) := Lib.hid (by rw [EQ.out, evNot HXJ.out PB, Bool.false_and, if_neg (by decide)])
        clear EQ
        go_wp2_with fail
        go_ret
        exact ⟨by rw [ER.out]; rfl, X⟩
      · go_wp2_with fail
        go_roundw
        case rel => exact ⟨j + 1, by go_num, by rw [← HN.out]; omega, evStep HXJ.out HB.out.symm HA.out, X2.out⟩
        case measure => simp [intOf]; omega
    · obtain rfl : xq1 = j := by omega
      have AL : Hid (x.funcs.all okF = true) := Lib.hid (evAll HN.out.symm HA.out)
      have X := XB1.out.trans HX.out
      clear XB1 HX HA
      replace EQ : Hid (R = if (x.decls.all okD && Bs) = true then (if (x.funcs.all pFn && !Bh) = true then 0 else 3) else 1) := Lib.hid (by rw [EQ.out, AL.out, Bool.true_and])
      clear AL
      obtain ⟨w2_, hw2_⟩ : ∃ q, q = wr := ⟨_, rfl⟩
      rw [← hw2_] at c0 c1 c2 X ⊢
      clear hw2_
      have XB2 := Lib.hid X
      clear X
      go_wp2_with fail
      go_loopw [4] (EvRel okD x.decls w2_) (fun s _ => xq4 - (intOf s).toNat)
      case atStart => exact ⟨0, rfl, Nat.zero_le _, fun k x hk => absurd hk (by omega), Ext.refl _⟩
      case round =>
        obtain ⟨j, rfl, hj, hall, hext⟩ := hrel
        rw [← HM.out] at hj
        replace c0 := hext.cell c0
        replace c1 := hext.cell c1
        replace c2 := hext.cell c2
        have HX := Lib.hid hext
        have HA := Lib.hid hall
        clear hext hall
        by_cases hlt : j < xq4
        · obtain ⟨u, hxj⟩ := getE (l := x.decls) (i := j) (by rw [← HM.out]; exact hlt)
          obtain ⟨⟨b, o, rfl, k0, k1, k2, k3, k4⟩, hin⟩ := (HD.out.to (XB2.out.trans HX.out)).at hxj
          have HXJ := Lib.hid hxj
          have HIN := Lib.hid hin
          clear hin
          have PN := fun w' => RName_c u.name w'
          have PT := fun w' => RType_c u.t.k u.t.b u.t.n w'
          have HEQ : okD u = (nameOk u.name && tyOk u.t.k u.t.b u.t.n) := rfl
          obtain ⟨B1, hB1⟩ : ∃ q, q = nameOk u.name := ⟨_, rfl⟩
          obtain ⟨B2, hB2⟩ : ∃ q, q = tyOk u.t.k u.t.b u.t.n := ⟨_, rfl⟩
          simp only [← hB1, ← hB2] at PN PT HEQ
          clear hB1 hB2
          replace HEQ := Lib.hid HEQ
          clear hxj
          obtain ⟨uq0, huq0⟩ : ∃ q, q = u.pub := ⟨_, rfl⟩
          obtain ⟨uq1, huq1⟩ : ∃ q, q = u.name := ⟨_, rfl⟩
          obtain ⟨uq2, huq2⟩ : ∃ q, q = u.t.k := ⟨_, rfl⟩
          obtain ⟨uq3, huq3⟩ : ∃ q, q = u.t.b := ⟨_, rfl⟩
          obtain ⟨uq4, huq4⟩ : ∃ q, q = u.t.n := ⟨_, rfl⟩
          simp only [← huq0, ← huq1, ← huq2, ← huq3, ← huq4] at k0 k1 k2 k3 k4 PN PT
          clear huq0 huq1 huq2 huq3 huq4
          replace PN := Lib.hid PN
          replace PT := Lib.hid PT
          go_wp2_with fail
          refine (PN.out _).mono ?_; rintro e2 w2 ⟨rfl, x2⟩
          replace c0 := x2.cell c0
          replace c1 := x2.cell c1
          replace c2 := x2.cell c2
          replace k2 := x2.cell k2
          replace k3 := x2.cell k3
          replace k4 := x2.cell k4
          have X2 := Lib.hid (HX.out.trans x2)
          clear x2 k0 k1
          cases B1
          · clear k2 k3 k4
            have PB : okD u = false := by rw [HEQ.out]; rfl
            have X := XB2.out.trans X2.out
            have ER : Hid (R = 1) := Lib.hid (by rw [EQ.out, evNot HXJ.out PB, Bool.false_and, if_neg (by decide)])
            clear EQ
            go_wp2_with fail
            go_ret
            exact ⟨by rw [ER.out]; rfl, X⟩
          · go_wp2_with fail
            refine (PT.out _).mono ?_; rintro e3 w3 ⟨rfl, x3⟩
            replace c0 := x3.cell c0
            replace c1 := x3.cell c1
            replace c2 := x3.cell c2
            replace X2 := Lib.hid (X2.out.trans x3)
            clear x3 k2 k3 k4
            cases B2
            · have PB : okD u = false := by rw [HEQ.out]; rfl
              have X := XB2.out.trans X2.out
              have ER : Hid (R = 1) := Lib.hid (by rw [EQ.out, evNot HXJ.out PB, Bool.false_and, if_neg (by decide)])
              clear EQ
              go_wp2_with fail
              go_ret
              exact ⟨by rw [ER.out]; rfl, X⟩
            · go_wp2_with fail
              go_roundw
              case rel => exact ⟨j + 1, by go_num, by rw [← HM.out]; omega, evStep HXJ.out (by rw [HEQ.out]; rfl) HA.out, X2.out⟩
              case measure => simp [intOf]; omega
        · obtain rfl : xq4 = j := by omega
          have AL : Hid (x.decls.all okD = true) := Lib.hid (evAll HM.out.symm HA.out)
          have X := XB2.out.trans HX.out
          clear XB2 HX HA
          replace EQ : Hid (R = if Bs = true then (if (x.funcs.all pFn && !Bh) = true then 0 else 3) else 1) := Lib.hid (by rw [EQ.out, AL.out, Bool.true_and])
          clear AL
          go_wp2_with fail
          refine (SS.out _ (HL.out.to X)).mono ?_; rintro e4 w4 ⟨rfl, x4⟩
          replace c0 := x4.cell c0
          replace c2 := x4.cell c2
          replace X := X.trans x4
          clear x4 c1
          cases Bs
          · have ER : Hid (R = 1) := Lib.hid (by rw [EQ.out, if_neg (by decide)])
            clear EQ
            go_wp2_with fail
            go_ret
            exact ⟨by rw [ER.out]; rfl, X⟩
          · replace EQ : Hid (R = if (x.funcs.all pFn && !Bh) = true then 0 else 3) := Lib.hid (by rw [EQ.out, if_pos rfl])
            have XB3 := Lib.hid X
            clear X
            go_wp2_with fail
            go_loopw [5] (EvRel pFn x.funcs w4) (fun s _ => xq1 - (intOf s).toNat)
            case atStart => exact ⟨0, rfl, Nat.zero_le _, fun k x hk => absurd hk (by omega), Ext.refl _⟩
            case round =>
              obtain ⟨j, rfl, hj, hall, hext⟩ := hrel
              rw [← HN.out] at hj
              replace c0 := hext.cell c0
              replace c2 := hext.cell c2
              have HX := Lib.hid hext
              have HA := Lib.hid hall
              clear hext hall
              by_cases hlt : j < xq1
              · obtain ⟨u, hxj⟩ := getE (l := x.funcs) (i := j) (by rw [← HN.out]; exact hlt)
                obtain ⟨⟨b, o, rfl, k0, k1, k2, k3, k4, k5, k6, k7, k8, k9⟩, hin⟩ := (HF.out.to (XB3.out.trans HX.out)).at hxj
                have HXJ := Lib.hid hxj
                have HIN := Lib.hid hin
                clear hin
                have PD := fun w' h => HD40.out u.body (by have := HWT.out u j hxj; omega) u.body.length rfl u.ba u.bc w' h
                have PE := fun w' h => RDepth_c u.e w' (by have := HWT.out u j hxj; have := sz_wtE u.e; omega) h
                have HEQ : pFn u = (!(u.body.any (dpS 40)) && decide (depE u.e ≤ 40)) := rfl
                have LB := HIN.out.body
                obtain ⟨B1, hB1⟩ : ∃ q, q = u.body.any (dpS 40) := ⟨_, rfl⟩
                simp only [← hB1] at PD HEQ
                clear hB1
                obtain ⟨d, hd⟩ : ∃ d, d = depE u.e := ⟨_, rfl⟩
                rw [← hd] at HEQ
                simp only [← hd] at PE
                unfold E.v at PE
                replace HEQ := Lib.hid HEQ
                clear hxj hd
                obtain ⟨uq0, huq0⟩ : ∃ q, q = u.name := ⟨_, rfl⟩
                obtain ⟨uq1, huq1⟩ : ∃ q, q = u.pa := ⟨_, rfl⟩
                obtain ⟨uq2, huq2⟩ : ∃ q, q = u.params.length := ⟨_, rfl⟩
                obtain ⟨uq3, huq3⟩ : ∃ q, q = u.pc := ⟨_, rfl⟩
                obtain ⟨uq4, huq4⟩ : ∃ q, q = u.t.k := ⟨_, rfl⟩
                obtain ⟨uq5, huq5⟩ : ∃ q, q = u.t.b := ⟨_, rfl⟩
                obtain ⟨uq6, huq6⟩ : ∃ q, q = u.t.n := ⟨_, rfl⟩
                obtain ⟨uq7, huq7⟩ : ∃ q, q = u.ba := ⟨_, rfl⟩
                obtain ⟨uq8, huq8⟩ : ∃ q, q = u.body.length := ⟨_, rfl⟩
                obtain ⟨uq9, huq9⟩ : ∃ q, q = u.bc := ⟨_, rfl⟩
                obtain ⟨uq10, huq10⟩ : ∃ q, q = u.e.op := ⟨_, rfl⟩
                obtain ⟨uq11, huq11⟩ : ∃ q, q = u.e.val := ⟨_, rfl⟩
                obtain ⟨uq12, huq12⟩ : ∃ q, q = u.e.name := ⟨_, rfl⟩
                obtain ⟨uq13, huq13⟩ : ∃ q, q = u.e.a := ⟨_, rfl⟩
                obtain ⟨uq14, huq14⟩ : ∃ q, q = u.e.args.length := ⟨_, rfl⟩
                obtain ⟨uq15, huq15⟩ : ∃ q, q = u.e.cap := ⟨_, rfl⟩
                simp only [← huq0, ← huq1, ← huq2, ← huq3, ← huq4, ← huq5, ← huq6, ← huq7, ← huq8, ← huq9, ← huq10, ← huq11, ← huq12, ← huq13, ← huq14, ← huq15] at k0 k1 k2 k3 k4 k5 k6 k7 k8 k9 PD PE LB
                clear huq0 huq1 huq2 huq3 huq4 huq5 huq6 huq7 huq8 huq9 huq10 huq11 huq12 huq13 huq14 huq15
                replace PD := Lib.hid PD
                replace PE := Lib.hid PE
                replace LB := Lib.hid LB
                go_wp2_with fail
                refine (PD.out _ LB.out).mono ?_; rintro e2 w2 ⟨rfl, x2⟩
                replace c0 := x2.cell c0
                replace c2 := x2.cell c2
                replace k6 := x2.cell k6
                replace k7 := x2.cell k7
                replace k8 := x2.cell k8
                replace k9 := x2.cell k9
                replace k5 := x2.cell k5
                have X2 := Lib.hid (HX.out.trans x2)
                have HE2 := Lib.hid (HIN.out.e.to x2)
                clear x2 k0 k1 k2 k3 k4
                cases B1
                · go_wp2_with fail
                  refine (PE.out _ HE2.out).mono ?_; rintro e3 w3 ⟨rfl, x3⟩
                  replace c0 := x3.cell c0
                  replace c2 := x3.cell c2
                  replace X2 := Lib.hid (X2.out.trans x3)
                  clear x3 k5 k6 k7 k8 k9
                  by_cases h4 : 40 < d
                  · have t4 : decide ((40 : Int) < (d : Int)) = true := decide_eq_true (by omega)
                    have t4b : decide (40 < d) = true := decide_eq_true h4
                    have PB : pFn u = false := by rw [HEQ.out, decide_eq_false (show ¬ d ≤ 40 by omega)]; rfl
                    have X := XB3.out.trans X2.out
                    clear h4
                    have ER : Hid (R = 3) := Lib.hid (by rw [EQ.out, evNot HXJ.out PB, Bool.false_and, if_neg (by decide)])
                    clear EQ
                    go_wp2_with fail
                    go_ret
                    exact ⟨by rw [ER.out]; rfl, X⟩
                  · have t4 : decide ((40 : Int) < (d : Int)) = false := decide_eq_false (by omega)
                    have t4b : decide (40 < d) = false := decide_eq_false h4
                    have PB : Hid (pFn u = true) := Lib.hid (by rw [HEQ.out, decide_eq_true (show d ≤ 40 by omega)]; rfl)
                    clear h4
                    go_wp2_with fail
                    go_roundw
                    case rel => exact ⟨j + 1, by go_num, by rw [← HN.out]; omega, evStep HXJ.out PB.out HA.out, X2.out⟩
                    case measure => simp [intOf]; omega
                · clear k5 k6 k7 k8 k9
                  have PB : pFn u = false := by rw [HEQ.out]; rfl
                  have X := XB3.out.trans X2.out
                  have ER : Hid (R = 3) := Lib.hid (by rw [EQ.out, evNot HXJ.out PB, Bool.false_and, if_neg (by decide)])
                  clear EQ
                  go_wp2_with fail
                  go_ret
                  exact ⟨by rw [ER.out]; rfl, X⟩
              · obtain rfl : xq1 = j := by omega
                have AL : Hid (x.funcs.all pFn = true) := Lib.hid (evAll HN.out.symm HA.out)
                have X := XB3.out.trans HX.out
                clear XB3 HX HA
                replace EQ : Hid (R = if (!Bh) = true then 0 else 3) := Lib.hid (by rw [EQ.out, AL.out, Bool.true_and])
                clear AL
                go_wp2_with fail
                refine (DD.out _ (HL.out.to X)).mono ?_; rintro e5 w5 ⟨rfl, x5⟩
                replace X := X.trans x5
                clear x5 c0 c2
                cases Bh
                · have ER : Hid (R = 0) := Lib.hid (by rw [EQ.out, Bool.not_false, if_pos rfl])
                  clear EQ
                  go_wp2_with fail
                  go_ret
                  exact ⟨by rw [ER.out]; rfl, X⟩
                · have ER : Hid (R = 3) := Lib.hid (by rw [EQ.out, Bool.not_true, if_neg (by decide)])
                  clear EQ
                  go_wp2_with fail
                  go_ret
                  exact ⟨by rw [ER.out]; rfl, X⟩
end Go.Proofs.YtcheigpejbmaoaaDoor
