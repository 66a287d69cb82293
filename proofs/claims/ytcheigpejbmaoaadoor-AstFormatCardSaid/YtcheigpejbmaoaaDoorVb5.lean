/- A well-formed function: the document. Printed by gen/val7.py. -/
import Derived.Test.YtcheigpejbmaoaaDoorVb3
namespace Go.Proofs.YtcheigpejbmaoaaDoor
open Go.RowKit
set_option maxRecDepth 100000 in
set_option maxHeartbeats 8000000 in
theorem formed_c (x : F) (w : World) (hx : InF w x) : Calls Tryd.prog 39 #[x.v] w fun r w' => r = .returned (.bool (okF x)) ∧ Ext w w' := by
  have SS := fun w' h => RStmts_c x.body x.body.length rfl x.ba x.bc w' h
  have NC := fun w' => RName_c x.name w'
  have TC := fun w' => RType_c x.t.k x.t.b x.t.n w'
  have XC := fun w' h => RExpr_c x.e w' h
  have EQ : okF x = (nameOk x.name && (x.params.all okP && (tyOk x.t.k x.t.b x.t.n && (x.body.all okS && okE x.e)))) := rfl
  have HP := hx.ps
  have HL := hx.body
  have HE := Lib.hid hx.e
  have hcap : x.params.length ≤ 9223372036854775807 := Nat.le_trans hx.ps.2 (by decide)
  obtain ⟨R, hR⟩ : ∃ R, R = okF x := ⟨_, rfl⟩
  rw [← hR] at EQ ⊢
  unfold F.v
  unfold E.v at XC
  obtain ⟨Bn, hBn⟩ : ∃ q, q = nameOk x.name := ⟨_, rfl⟩
  obtain ⟨Bt, hBt⟩ : ∃ q, q = tyOk x.t.k x.t.b x.t.n := ⟨_, rfl⟩
  obtain ⟨Bb, hBb⟩ : ∃ q, q = x.body.all okS := ⟨_, rfl⟩
  obtain ⟨Be, hBe⟩ : ∃ q, q = okE x.e := ⟨_, rfl⟩
  simp only [← hBn, ← hBt, ← hBb, ← hBe] at EQ NC TC XC SS
  clear hBn hBt hBb hBe
  clear hR hx
  obtain ⟨xq0, hxq0⟩ : ∃ q, q = x.name := ⟨_, rfl⟩
  obtain ⟨xq1, hxq1⟩ : ∃ q, q = x.pa := ⟨_, rfl⟩
  obtain ⟨xq2, hxq2⟩ : ∃ q, q = x.params.length := ⟨_, rfl⟩
  obtain ⟨xq3, hxq3⟩ : ∃ q, q = x.pc := ⟨_, rfl⟩
  obtain ⟨xq4, hxq4⟩ : ∃ q, q = x.t.k := ⟨_, rfl⟩
  obtain ⟨xq5, hxq5⟩ : ∃ q, q = x.t.b := ⟨_, rfl⟩
  obtain ⟨xq6, hxq6⟩ : ∃ q, q = x.t.n := ⟨_, rfl⟩
  obtain ⟨xq7, hxq7⟩ : ∃ q, q = x.ba := ⟨_, rfl⟩
  obtain ⟨xq8, hxq8⟩ : ∃ q, q = x.body.length := ⟨_, rfl⟩
  obtain ⟨xq9, hxq9⟩ : ∃ q, q = x.bc := ⟨_, rfl⟩
  obtain ⟨xq10, hxq10⟩ : ∃ q, q = x.e.op := ⟨_, rfl⟩
  obtain ⟨xq11, hxq11⟩ : ∃ q, q = x.e.val := ⟨_, rfl⟩
  obtain ⟨xq12, hxq12⟩ : ∃ q, q = x.e.name := ⟨_, rfl⟩
  obtain ⟨xq13, hxq13⟩ : ∃ q, q = x.e.a := ⟨_, rfl⟩
  obtain ⟨xq14, hxq14⟩ : ∃ q, q = x.e.args.length := ⟨_, rfl⟩
  obtain ⟨xq15, hxq15⟩ : ∃ q, q = x.e.cap := ⟨_, rfl⟩
  simp only [← hxq0, ← hxq1, ← hxq2, ← hxq3, ← hxq4, ← hxq5, ← hxq6, ← hxq7, ← hxq8, ← hxq9, ← hxq10, ← hxq11, ← hxq12, ← hxq13, ← hxq14, ← hxq15] at NC TC XC SS HP HL hcap ⊢
  have HN := Lib.hid hxq2
  clear hxq0 hxq1 hxq2 hxq3 hxq4 hxq5 hxq6 hxq7 hxq8 hxq9 hxq10 hxq11 hxq12 hxq13 hxq14 hxq15
  replace EQ : Hid (R = (x.params.all okP && (Bn && (Bt && (Bb && Be))))) := Lib.hid (by rw [EQ]; cases Bn <;> cases x.params.all okP <;> simp)
  replace SS := Lib.hid SS
  replace NC := Lib.hid NC
  replace TC := Lib.hid TC
  replace XC := Lib.hid XC
  replace HL := Lib.hid HL
  replace HP := Lib.hid HP
  go_enter Tryd.func39, Tryd.ntmps39
  go_wp2_with fail
  obtain ⟨w1, hw1⟩ : ∃ q, q = w.alloc (.cells #[.string xq0, .slice xq1 xq2 xq3, .int .i64 xq4, .int .i64 xq5, .int .i64 xq6, .slice xq7 xq8 xq9, .int .i64 xq10, .int .u64 (xq11 : Int), .string xq12, .slice xq13 xq14 xq15] 50) := ⟨_, rfl⟩
  have c0 : w1.cell? ⟨w.heap.size, 0, none⟩ = some (.string xq0) := by rw [hw1]; simp
  have c1 : w1.cell? ⟨w.heap.size, 1, none⟩ = some (.slice xq1 xq2 xq3) := by rw [hw1]; simp
  have c2 : w1.cell? ⟨w.heap.size, 2, none⟩ = some (.int .i64 xq4) := by rw [hw1]; simp
  have c3 : w1.cell? ⟨w.heap.size, 3, none⟩ = some (.int .i64 xq5) := by rw [hw1]; simp
  have c4 : w1.cell? ⟨w.heap.size, 4, none⟩ = some (.int .i64 xq6) := by rw [hw1]; simp
  have c5 : w1.cell? ⟨w.heap.size, 5, none⟩ = some (.slice xq7 xq8 xq9) := by rw [hw1]; simp
  have c6 : w1.cell? ⟨w.heap.size, 6, none⟩ = some (.int .i64 xq10) := by rw [hw1]; simp
  have c7 : w1.cell? ⟨w.heap.size, 7, none⟩ = some (.int .u64 (xq11 : Int)) := by rw [hw1]; simp
  have c8 : w1.cell? ⟨w.heap.size, 8, none⟩ = some (.string xq12) := by rw [hw1]; simp
  have c9 : w1.cell? ⟨w.heap.size, 9, none⟩ = some (.slice xq13 xq14 xq15) := by rw [hw1]; simp
  have X : Ext w w1 := by rw [hw1]; exact (Ext.refl _).alloc _
  rw [← hw1]
  clear hw1
  have XB1 := Lib.hid X
  clear X
  go_wp2_with fail
  go_loopw [3] (EvRel okP x.params w1) (fun s _ => xq2 - (intOf s).toNat)
  case atStart => exact ⟨0, rfl, Nat.zero_le _, fun k x hk => absurd hk (by omega), Ext.refl _⟩
  case round =>
    obtain ⟨j, rfl, hj, hall, hext⟩ := hrel
    rw [← HN.out] at hj
    replace c0 := hext.cell c0
    replace c1 := hext.cell c1
    replace c2 := hext.cell c2
    replace c3 := hext.cell c3
    replace c4 := hext.cell c4
    replace c5 := hext.cell c5
    replace c6 := hext.cell c6
    replace c7 := hext.cell c7
    replace c8 := hext.cell c8
    replace c9 := hext.cell c9
    have HX := Lib.hid hext
    have HA := Lib.hid hall
    clear hext hall
    by_cases hlt : j < xq2
    · obtain ⟨u, hxj⟩ := getE (l := x.params) (i := j) (by rw [← HN.out]; exact hlt)
      obtain ⟨⟨b, o, rfl, k0, k1, k2, k3⟩, hin⟩ := (HP.out.to (XB1.out.trans HX.out)).at hxj
      have HXJ := Lib.hid hxj
      have HIN := Lib.hid hin
      clear hin
      have PN := fun w' => RName_c u.name w'
      have PT := fun w' => RType_c u.t.k u.t.b u.t.n w'
      have HEQ : okP u = (nameOk u.name && tyOk u.t.k u.t.b u.t.n) := rfl
      obtain ⟨B1, hB1⟩ : ∃ q, q = nameOk u.name := ⟨_, rfl⟩
      obtain ⟨B2, hB2⟩ : ∃ q, q = tyOk u.t.k u.t.b u.t.n := ⟨_, rfl⟩
      simp only [← hB1, ← hB2] at PN PT HEQ
      clear hB1 hB2
      replace HEQ := Lib.hid HEQ
      clear hxj
      obtain ⟨uq0, huq0⟩ : ∃ q, q = u.name := ⟨_, rfl⟩
      obtain ⟨uq1, huq1⟩ : ∃ q, q = u.t.k := ⟨_, rfl⟩
      obtain ⟨uq2, huq2⟩ : ∃ q, q = u.t.b := ⟨_, rfl⟩
      obtain ⟨uq3, huq3⟩ : ∃ q, q = u.t.n := ⟨_, rfl⟩
      simp only [← huq0, ← huq1, ← huq2, ← huq3] at k0 k1 k2 k3 PN PT
      clear huq0 huq1 huq2 huq3
      replace PN := Lib.hid PN
      replace PT := Lib.hid PT
      go_wp2_with fail
      refine (PN.out _).mono ?_; rintro e2 w2 ⟨rfl, x2⟩
      replace c0 := x2.cell c0
      replace c1 := x2.cell c1
      replace c2 := x2.cell c2
      replace c3 := x2.cell c3
      replace c4 := x2.cell c4
      replace c5 := x2.cell c5
      replace c6 := x2.cell c6
      replace c7 := x2.cell c7
      replace c8 := x2.cell c8
      replace c9 := x2.cell c9
      replace k1 := x2.cell k1
      replace k2 := x2.cell k2
      replace k3 := x2.cell k3
      have X2 := Lib.hid (HX.out.trans x2)
      clear x2 k0
      cases B1
      · clear k1 k2 k3
        have PB : okP u = false := by rw [HEQ.out]; rfl
        have X := XB1.out.trans X2.out
        have ER : Hid (R = false) := Lib.hid (by rw [EQ.out, evNot HXJ.out PB]; simp)
        clear EQ PB
        go_wp2_with fail
        go_ret
        exact ⟨by rw [ER.out]; rfl, X⟩
      · go_wp2_with fail
        refine (PT.out _).mono ?_; rintro e3 w3 ⟨rfl, x3⟩
        replace c0 := x3.cell c0
        replace c1 := x3.cell c1
        replace c2 := x3.cell c2
        replace c3 := x3.cell c3
        replace c4 := x3.cell c4
        replace c5 := x3.cell c5
        replace c6 := x3.cell c6
        replace c7 := x3.cell c7
        replace c8 := x3.cell c8
        replace c9 := x3.cell c9
        replace X2 := Lib.hid (X2.out.trans x3)
        clear x3 k1 k2 k3
        cases B2
        · have PB : okP u = false := by rw [HEQ.out]; rfl
          have X := XB1.out.trans X2.out
          have ER : Hid (R = false) := Lib.hid (by rw [EQ.out, evNot HXJ.out PB]; simp)
          clear EQ PB
          go_wp2_with fail
          go_ret
          exact ⟨by rw [ER.out]; rfl, X⟩
        · go_wp2_with fail
          go_roundw
          case rel => exact ⟨j + 1, by go_num, by rw [← HN.out]; omega, evStep HXJ.out (by rw [HEQ.out]; rfl) HA.out, X2.out⟩
          case measure => simp [intOf]; omega
    · obtain rfl : xq2 = j := by omega
      have AL : Hid (x.params.all okP = true) := Lib.hid (evAll HN.out.symm HA.out)
      have X := XB1.out.trans HX.out
      clear XB1 HX HA
      replace EQ : Hid (R = (Bn && (Bt && (Bb && Be)))) := Lib.hid (by rw [EQ.out, AL.out, Bool.true_and])
      clear AL
      go_wp2_with fail
      refine (NC.out _).mono ?_; rintro e4 w4 ⟨rfl, x4⟩
      replace c2 := x4.cell c2
      replace c3 := x4.cell c3
      replace c4 := x4.cell c4
      replace c5 := x4.cell c5
      replace c6 := x4.cell c6
      replace c7 := x4.cell c7
      replace c8 := x4.cell c8
      replace c9 := x4.cell c9
      clear c0
      replace X := X.trans x4
      clear x4
      cases Bn
      · go_wp2_with fail
        go_ret
        exact ⟨by go_light; simp [EQ.out], X⟩
      · go_wp2_with fail
        refine (TC.out _).mono ?_; rintro e5 w5 ⟨rfl, x5⟩
        replace c5 := x5.cell c5
        replace c6 := x5.cell c6
        replace c7 := x5.cell c7
        replace c8 := x5.cell c8
        replace c9 := x5.cell c9
        clear c2 c3 c4
        replace X := X.trans x5
        clear x5
        cases Bt
        · go_wp2_with fail
          go_ret
          exact ⟨by go_light; simp [EQ.out], X⟩
        · go_wp2_with fail
          refine (SS.out _ (HL.out.to X)).mono ?_; rintro e6 w6 ⟨rfl, x6⟩
          replace c6 := x6.cell c6
          replace c7 := x6.cell c7
          replace c8 := x6.cell c8
          replace c9 := x6.cell c9
          clear c5
          replace X := X.trans x6
          clear x6
          cases Bb
          · go_wp2_with fail
            go_ret
            exact ⟨by go_light; simp [EQ.out], X⟩
          · go_wp2_with fail
            refine (XC.out _ (HE.out.to X)).mono ?_; rintro e7 w7 ⟨rfl, x7⟩
            clear c6 c7 c8 c9
            replace X := X.trans x7
            clear x7
            cases Be
            · go_wp2_with fail
              go_ret
              exact ⟨by go_light; simp [EQ.out], X⟩
            · go_wp2_with fail
              go_ret
              exact ⟨by go_light; simp [EQ.out], X⟩
end Go.Proofs.YtcheigpejbmaoaaDoor
