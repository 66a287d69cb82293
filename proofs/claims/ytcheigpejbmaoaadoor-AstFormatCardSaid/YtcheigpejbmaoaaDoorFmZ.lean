/- AstFormat: the walk. Printed by gen/rt2.py. -/
import Derived.Test.YtcheigpejbmaoaaDoorRt5
import Derived.Test.YtcheigpejbmaoaaDoorFm5
import Derived.Test.YtcheigpejbmaoaaDoorVb6
import Derived.Test.YtcheigpejbmaoaaDoorAsB
namespace Go.Proofs.YtcheigpejbmaoaaDoor
open Go.RowKit
/-- The law's own two values. -/
theorem fm_law (g : G) (h : valG g = 0) : fmR g = if (txG g).length ≤ 16384 then .tuple #[.string ⟨(txG g).toArray⟩, .int .i64 0] else .tuple #[.string ⟨#[]⟩, .int .i64 3] := by unfold fmR; rw [if_pos h]
set_option maxRecDepth 100000 in
set_option maxHeartbeats 8000000 in
theorem AstFormat_w (x : G) (w : World) (ht : Tab w) (hx : InG w x) : Calls Tryd.prog 6 #[x.v] w fun r w' => r = .returned (.bool true) ∧ Ext w w' := by
  have A1 := fun (h : wtG x ≤ 600) w' h' h2 => Format_c x h w' h' h2
  have A2 := fun (h : wtG x ≤ 600) w' h' => RValid_c x (by omega) w' h'
  have A3 := fun (h : wtG x ≤ 600) (hv : valG x = 0) w' h' h2 => Program_c x (valG_ok hv) h w' h' h2
  have S1 := fun w' h => Small_c x w' h
  have AC := Lib.hid awake_c
  have FL := fm_law x
  have FN : valG x ≠ 0 → fmR x = .tuple #[.string ⟨#[]⟩, .int .i64 (valG x)] := fun h => by unfold fmR; rw [if_neg h]
  obtain ⟨TT, hTT⟩ : ∃ q : ByteArray, q = ⟨(txG x).toArray⟩ := ⟨_, rfl⟩
  have hsz : TT.size = (txG x).length := by rw [hTT, mkS]
  obtain ⟨V, hV⟩ : ∃ V, V = valG x := ⟨_, rfl⟩
  obtain ⟨FR, hFR⟩ : ∃ q, q = fmR x := ⟨_, rfl⟩
  rw [← hTT, ← hV, ← hFR, ← hsz] at FL
  rw [← hV, ← hFR] at FN
  simp only [← hV] at A2 A3
  simp only [← hTT] at A3
  simp only [← hFR] at A1
  obtain ⟨T, hT⟩ : ∃ T, T = wtG x := ⟨_, rfl⟩
  simp only [← hT] at A1 A2 A3 S1
  have HX := Lib.hid hx
  have HT := Lib.hid ht
  unfold G.v at *
  clear hTT hV hFR hT hx ht hsz
  obtain ⟨xq0, hxq0⟩ : ∃ q, q = x.fa := ⟨_, rfl⟩
  obtain ⟨xq1, hxq1⟩ : ∃ q, q = x.funcs.length := ⟨_, rfl⟩
  obtain ⟨xq2, hxq2⟩ : ∃ q, q = x.fc := ⟨_, rfl⟩
  obtain ⟨xq3, hxq3⟩ : ∃ q, q = x.da := ⟨_, rfl⟩
  obtain ⟨xq4, hxq4⟩ : ∃ q, q = x.decls.length := ⟨_, rfl⟩
  obtain ⟨xq5, hxq5⟩ : ∃ q, q = x.dc := ⟨_, rfl⟩
  obtain ⟨xq6, hxq6⟩ : ∃ q, q = x.ba := ⟨_, rfl⟩
  obtain ⟨xq7, hxq7⟩ : ∃ q, q = x.body.length := ⟨_, rfl⟩
  obtain ⟨xq8, hxq8⟩ : ∃ q, q = x.bc := ⟨_, rfl⟩
  simp only [← hxq0, ← hxq1, ← hxq2, ← hxq3, ← hxq4, ← hxq5, ← hxq6, ← hxq7, ← hxq8] at A1 A2 A3 S1 ⊢
  clear hxq0 hxq1 hxq2 hxq3 hxq4 hxq5 hxq6 hxq7 hxq8
  replace A1 := Lib.hid A1
  replace A2 := Lib.hid A2
  replace A3 := Lib.hid A3
  replace S1 := Lib.hid S1
  replace FL := Lib.hid FL
  replace FN := Lib.hid FN
  go_enter Tryd.func6, Tryd.ntmps6
  go_wp2_with fail
  refine (AC.out _ (HT.out.ext ((Ext.refl _).alloc _))).mono ?_; rintro e1 w1 ⟨rfl, x1⟩
  have c0 : w1.cell? ⟨w.heap.size, 0, none⟩ = some (.slice xq0 xq1 xq2) := x1.cell (by simp)
  have c1 : w1.cell? ⟨w.heap.size, 1, none⟩ = some (.slice xq3 xq4 xq5) := x1.cell (by simp)
  have c2 : w1.cell? ⟨w.heap.size, 2, none⟩ = some (.slice xq6 xq7 xq8) := x1.cell (by simp)
  have X := x1.box
  clear x1
  go_wp2_with fail
  refine (S1.out _ (HX.out.to X)).mono ?_; rintro e2 w2 ⟨b1, rfl, hs1, x2⟩
  replace c0 := x2.cell c0
  replace c1 := x2.cell c1
  replace c2 := x2.cell c2
  replace X := X.trans x2; clear x2
  cases b1
  · clear hs1 c0 c1 c2
    go_wp2_with fail
    refine (AC.out _ (HT.out.ext X)).mono ?_; rintro e3 w3 ⟨rfl, x3⟩
    replace X := X.trans x3; clear x3
    go_wp2_with fail
    go_ret
    exact ⟨rfl, X⟩
  · have HS1 := Lib.hid (hs1 rfl)
    clear hs1
    by_cases hv : V = 0
    · subst hv
      have HFL := Lib.hid (FL.out rfl)
      by_cases hl : TT.size ≤ 16384
      · have EF : FR = .tuple #[.string TT, .int .i64 0] := by rw [HFL.out, if_pos hl]
        have tl : decide ((16384 : Int) < (TT.size : Int)) = false := decide_eq_false (by omega)
        have tl2 : decide (16384 < TT.size) = false := decide_eq_false (by omega)
        subst EF
        clear hl HFL
        go_wp2_with fail
        refine (A1.out HS1.out _ (HT.out.ext X) (HX.out.to X)).mono ?_; rintro e4 w4 ⟨rfl, x4⟩
        replace c0 := x4.cell c0
        replace c1 := x4.cell c1
        replace c2 := x4.cell c2
        replace X := X.trans x4; clear x4
        go_wp2_with fail
        refine (A2.out HS1.out _ (HX.out.to X)).mono ?_; rintro e5 w5 ⟨rfl, x5⟩
        replace c0 := x5.cell c0
        replace c1 := x5.cell c1
        replace c2 := x5.cell c2
        replace X := X.trans x5; clear x5
        go_wp2_with fail
        refine (A3.out HS1.out (by first | trivial | rfl) _ (HT.out.ext X) (HX.out.to X)).mono ?_; rintro e6 w6 ⟨rfl, x6⟩
        replace X := X.trans x6; clear x6 c0 c1 c2
        have te : (TT.toList == TT.toList) = true := by simp
        go_wp2_with fail
        go_ret
        exact ⟨rfl, X⟩
      · have EF : FR = .tuple #[.string ⟨#[]⟩, .int .i64 3] := by rw [HFL.out, if_neg hl]
        have tl : decide ((16384 : Int) < (TT.size : Int)) = true := decide_eq_true (by omega)
        have tl2 : decide (16384 < TT.size) = true := decide_eq_true (by omega)
        subst EF
        clear hl HFL
        go_wp2_with fail
        refine (A1.out HS1.out _ (HT.out.ext X) (HX.out.to X)).mono ?_; rintro e4 w4 ⟨rfl, x4⟩
        replace c0 := x4.cell c0
        replace c1 := x4.cell c1
        replace c2 := x4.cell c2
        replace X := X.trans x4; clear x4
        go_wp2_with fail
        refine (A2.out HS1.out _ (HX.out.to X)).mono ?_; rintro e5 w5 ⟨rfl, x5⟩
        replace c0 := x5.cell c0
        replace c1 := x5.cell c1
        replace c2 := x5.cell c2
        replace X := X.trans x5; clear x5
        go_wp2_with fail
        refine (A3.out HS1.out (by first | trivial | rfl) _ (HT.out.ext X) (HX.out.to X)).mono ?_; rintro e6 w6 ⟨rfl, x6⟩
        replace X := X.trans x6; clear x6 c0 c1 c2
        go_wp2_with fail
        go_ret
        exact ⟨rfl, X⟩
    · have EF : FR = .tuple #[.string ⟨#[]⟩, .int .i64 V] := FN.out hv
      have tv : (V == 0) = false := beq_eq_false_iff_ne.2 hv
      have tV : (V == V) = true := by simp
      subst EF
      clear hv
      go_wp2_with fail
      refine (A1.out HS1.out _ (HT.out.ext X) (HX.out.to X)).mono ?_; rintro e4 w4 ⟨rfl, x4⟩
      replace c0 := x4.cell c0
      replace c1 := x4.cell c1
      replace c2 := x4.cell c2
      replace X := X.trans x4; clear x4
      go_wp2_with fail
      refine (A2.out HS1.out _ (HX.out.to X)).mono ?_; rintro e5 w5 ⟨rfl, x5⟩
      replace X := X.trans x5; clear x5 c0 c1 c2
      go_wp2_with fail
      go_ret
      exact ⟨rfl, X⟩
end Go.Proofs.YtcheigpejbmaoaaDoor
