/- AstInjective: the walk. Printed by gen/fm3.py. -/
import Derived.Test.YtcheigpejbmaoaaDoorFm5
import Derived.Test.YtcheigpejbmaoaaDoorAx8
import Derived.Test.YtcheigpejbmaoaaDoorAsB
namespace Go.Proofs.YtcheigpejbmaoaaDoor
open Go.RowKit
theorem fmR_form (g : G) : ∃ (s : ByteArray) (e : Int), fmR g = .tuple #[.string s, .int .i64 e] ∧ (e = 0 → okG g = true ∧ s = ⟨(txG g).toArray⟩) := by
  unfold fmR
  by_cases h : valG g = 0
  · rw [if_pos h]
    by_cases hl : (txG g).length ≤ 16384
    · rw [if_pos hl]; exact ⟨_, _, rfl, fun _ => ⟨valG_ok h, rfl⟩⟩
    · rw [if_neg hl]; exact ⟨_, _, rfl, fun q => absurd q (by decide)⟩
  · rw [if_neg h]; exact ⟨_, _, rfl, fun q => absurd q h⟩
theorem inj_eq {x y : G} (hx : okG x = true) (hy : okG y = true) : strEq ⟨(txG x).toArray⟩ ⟨(txG y).toArray⟩ = eqG x y := by
  unfold strEq
  by_cases h : eqG x y = true
  · rw [h, txG_congr x y h, decide_eq_true rfl]
  · rw [Bool.eq_false_iff.2 h, decide_eq_false]
    intro e
    apply h
    have e2 : (txG x).toArray = (txG y).toArray := congrArg ByteArray.data e
    exact txG_inj hx hy (by simpa using congrArg Array.toList e2)
set_option maxRecDepth 100000 in
set_option maxHeartbeats 8000000 in
theorem AstInjective_w (x y : G) (w : World) (ht : Tab w) (hx : InG w x) (hy : InG w y) : Calls Tryd.prog 7 #[x.v, y.v] w fun r w' => r = .returned (.bool true) ∧ Ext w w' := by
  have A1 := fun (h : wtG x ≤ 600) w' h' h2 => Format_c x h w' h' h2
  have A2 := fun (h : wtG y ≤ 600) w' h' h2 => Format_c y h w' h' h2
  have A3 := fun w' h h' => Same_c x y w' h h'
  have S1 := fun w' h => Small_c x w' h
  have S2 := fun w' h => Small_c y w' h
  have AC := Lib.hid awake_c
  obtain ⟨s1, e1, f1, g1⟩ := fmR_form x
  obtain ⟨s2, e2, f2, g2⟩ := fmR_form y
  have EB : Hid (e1 = 0 → e2 = 0 → strEq s1 s2 = eqG x y) := Lib.hid (fun q1 q2 => by
    obtain ⟨o1, p1⟩ := g1 q1
    obtain ⟨o2, p2⟩ := g2 q2
    rw [p1, p2]; exact inj_eq o1 o2)
  simp only [f1] at A1
  simp only [f2] at A2
  obtain ⟨B, hB⟩ : ∃ B, B = eqG x y := ⟨_, rfl⟩
  simp only [← hB] at A3
  rw [← hB] at EB
  obtain ⟨T1, hT1⟩ : ∃ T, T = wtG x := ⟨_, rfl⟩
  obtain ⟨T2, hT2⟩ : ∃ T, T = wtG y := ⟨_, rfl⟩
  simp only [← hT1] at A1 S1
  simp only [← hT2] at A2 S2
  have HX := Lib.hid hx
  have HY := Lib.hid hy
  have HT := Lib.hid ht
  unfold G.v at *
  clear hB hT1 hT2 f1 f2 g1 g2 hx hy ht
  obtain ⟨xq0, hxq0⟩ : ∃ q, q = x.fa := ⟨_, rfl⟩
  obtain ⟨xq1, hxq1⟩ : ∃ q, q = x.funcs.length := ⟨_, rfl⟩
  obtain ⟨xq2, hxq2⟩ : ∃ q, q = x.fc := ⟨_, rfl⟩
  obtain ⟨xq3, hxq3⟩ : ∃ q, q = x.da := ⟨_, rfl⟩
  obtain ⟨xq4, hxq4⟩ : ∃ q, q = x.decls.length := ⟨_, rfl⟩
  obtain ⟨xq5, hxq5⟩ : ∃ q, q = x.dc := ⟨_, rfl⟩
  obtain ⟨xq6, hxq6⟩ : ∃ q, q = x.ba := ⟨_, rfl⟩
  obtain ⟨xq7, hxq7⟩ : ∃ q, q = x.body.length := ⟨_, rfl⟩
  obtain ⟨xq8, hxq8⟩ : ∃ q, q = x.bc := ⟨_, rfl⟩
  simp only [← hxq0, ← hxq1, ← hxq2, ← hxq3, ← hxq4, ← hxq5, ← hxq6, ← hxq7, ← hxq8] at A1 A3 S1 ⊢
  clear hxq0 hxq1 hxq2 hxq3 hxq4 hxq5 hxq6 hxq7 hxq8
  obtain ⟨yq0, hyq0⟩ : ∃ q, q = y.fa := ⟨_, rfl⟩
  obtain ⟨yq1, hyq1⟩ : ∃ q, q = y.funcs.length := ⟨_, rfl⟩
  obtain ⟨yq2, hyq2⟩ : ∃ q, q = y.fc := ⟨_, rfl⟩
  obtain ⟨yq3, hyq3⟩ : ∃ q, q = y.da := ⟨_, rfl⟩
  obtain ⟨yq4, hyq4⟩ : ∃ q, q = y.decls.length := ⟨_, rfl⟩
  obtain ⟨yq5, hyq5⟩ : ∃ q, q = y.dc := ⟨_, rfl⟩
  obtain ⟨yq6, hyq6⟩ : ∃ q, q = y.ba := ⟨_, rfl⟩
  obtain ⟨yq7, hyq7⟩ : ∃ q, q = y.body.length := ⟨_, rfl⟩
  obtain ⟨yq8, hyq8⟩ : ∃ q, q = y.bc := ⟨_, rfl⟩
  simp only [← hyq0, ← hyq1, ← hyq2, ← hyq3, ← hyq4, ← hyq5, ← hyq6, ← hyq7, ← hyq8] at A2 A3 S2 ⊢
  clear hyq0 hyq1 hyq2 hyq3 hyq4 hyq5 hyq6 hyq7 hyq8
  replace A1 := Lib.hid A1
  replace A2 := Lib.hid A2
  replace A3 := Lib.hid A3
  replace S1 := Lib.hid S1
  replace S2 := Lib.hid S2
  go_enter Tryd.func7, Tryd.ntmps7
  go_wp2_with fail
  refine (AC.out _ (HT.out.ext (((Ext.refl _).alloc _).alloc _))).mono ?_; rintro e1 w1 ⟨rfl, x1⟩
  have c0 : w1.cell? ⟨w.heap.size, 0, none⟩ = some (.slice xq0 xq1 xq2) := x1.cell (by simp)
  have d0 : w1.cell? ⟨w.heap.size + 1, 0, none⟩ = some (.slice yq0 yq1 yq2) := x1.cell (by simp)
  have c1 : w1.cell? ⟨w.heap.size, 1, none⟩ = some (.slice xq3 xq4 xq5) := x1.cell (by simp)
  have d1 : w1.cell? ⟨w.heap.size + 1, 1, none⟩ = some (.slice yq3 yq4 yq5) := x1.cell (by simp)
  have c2 : w1.cell? ⟨w.heap.size, 2, none⟩ = some (.slice xq6 xq7 xq8) := x1.cell (by simp)
  have d2 : w1.cell? ⟨w.heap.size + 1, 2, none⟩ = some (.slice yq6 yq7 yq8) := x1.cell (by simp)
  have X := x1.box.box
  clear x1
  go_wp2_with fail
  refine (S1.out _ (HX.out.to X)).mono ?_; rintro e2 w2 ⟨b1, rfl, hs1, x2⟩
  replace c0 := x2.cell c0; replace d0 := x2.cell d0; replace c1 := x2.cell c1; replace d1 := x2.cell d1; replace c2 := x2.cell c2; replace d2 := x2.cell d2; replace X := X.trans x2; clear x2
  cases b1
  · clear hs1 c0 c1 c2 d0 d1 d2
    go_wp2_with fail
    refine (AC.out _ (HT.out.ext X)).mono ?_; rintro e3 w3 ⟨rfl, x3⟩
    replace X := X.trans x3; clear x3
    go_wp2_with fail
    go_ret
    exact ⟨rfl, X⟩
  · have HS1 := Lib.hid (hs1 rfl)
    clear hs1
    go_wp2_with fail
    refine (S2.out _ (HY.out.to X)).mono ?_; rintro e3 w3 ⟨b2, rfl, hs2, x3⟩
    replace c0 := x3.cell c0; replace d0 := x3.cell d0; replace c1 := x3.cell c1; replace d1 := x3.cell d1; replace c2 := x3.cell c2; replace d2 := x3.cell d2; replace X := X.trans x3; clear x3
    cases b2
    · clear hs2 c0 c1 c2 d0 d1 d2
      go_wp2_with fail
      refine (AC.out _ (HT.out.ext X)).mono ?_; rintro e4 w4 ⟨rfl, x4⟩
      replace X := X.trans x4; clear x4
      go_wp2_with fail
      go_ret
      exact ⟨rfl, X⟩
    · have HS2 := Lib.hid (hs2 rfl)
      clear hs2
      go_wp2_with fail
      refine (A1.out HS1.out _ (HT.out.ext X) (HX.out.to X)).mono ?_; rintro e4 w4 ⟨rfl, x4⟩
      replace c0 := x4.cell c0; replace d0 := x4.cell d0; replace c1 := x4.cell c1; replace d1 := x4.cell d1; replace c2 := x4.cell c2; replace d2 := x4.cell d2; replace X := X.trans x4; clear x4
      go_wp2_with fail
      refine (A2.out HS2.out _ (HT.out.ext X) (HY.out.to X)).mono ?_; rintro e5 w5 ⟨rfl, x5⟩
      replace c0 := x5.cell c0; replace d0 := x5.cell d0; replace c1 := x5.cell c1; replace d1 := x5.cell d1; replace c2 := x5.cell c2; replace d2 := x5.cell d2; replace X := X.trans x5; clear x5
      by_cases q1 : e1 = 0
      · subst q1
        by_cases q2 : e2 = 0
        · subst q2
          have tB : (s1.toList == s2.toList) = B := by rw [toL_eq]; exact EB.out rfl rfl
          have TB : (B == B) = true := by simp
          go_wp2_with fail
          refine (A3.out _ (HX.out.to X) (HY.out.to X)).mono ?_; rintro e6 w6 ⟨rfl, x6⟩
          replace X := X.trans x6; clear x6 c0 c1 c2 d0 d1 d2
          go_wp2_with fail
          go_ret
          exact ⟨rfl, X⟩
        · have t2 : (e2 == 0) = false := beq_eq_false_iff_ne.2 q2
          have t2b : (e2 != 0) = true := by rw [bne, t2]; rfl
          clear q2 c0 c1 c2 d0 d1 d2
          go_wp2_with fail
          go_ret
          exact ⟨rfl, X⟩
      · have t1 : (e1 == 0) = false := beq_eq_false_iff_ne.2 q1
        have t1b : (e1 != 0) = true := by rw [bne, t1]; rfl
        clear q1 c0 c1 c2 d0 d1 d2
        go_wp2_with fail
        go_ret
        exact ⟨rfl, X⟩
end Go.Proofs.YtcheigpejbmaoaaDoor
