/- Parts of the text of an expression: the document. Printed by gen/rt1.py. -/
import Derived.Test.YtcheigpejbmaoaaDoorTx2
namespace Go.Proofs.YtcheigpejbmaoaaDoor
open Go.RowKit
/-- What is known of a text of the document: it is not long, and Text returns it. -/
def RT (x : E) : Prop := (txB x).length ≤ 24000 ∧ ∀ w, InE w x → Calls Tryd.prog 53 #[x.v] w fun r w' => r = .returned (.string ⟨(txB x).toArray⟩) ∧ Ext w w'
theorem mkL (l : List UInt8) : (⟨l.toArray⟩ : ByteArray).data.toList = l := rfl
theorem mkS (l : List UInt8) : (⟨l.toArray⟩ : ByteArray).size = l.length := rfl
set_option maxRecDepth 100000 in
set_option maxHeartbeats 4000000 in
theorem RLevel_c (op : Int) (v : Nat) (s : ByteArray) (a : Option Addr) (n c : Nat) (w : World) : Calls Tryd.prog 77 #[.agg #[.int .i64 op, .int .u64 (v : Int), .string s, .slice a n c]] w fun r w' => r = .returned (.int .i64 (lvl op)) ∧ Ext w w' := by
  by_cases h20 : op = 20
  · subst h20
    go_enter Tryd.func77, Tryd.ntmps77
    go_wp2
    go_ret
    exact ⟨rfl, (Ext.refl _).alloc _⟩
  have t20 : (op == 20) = false := beq_eq_false_iff_ne.2 h20
  by_cases h19 : op = 19
  · subst h19
    go_enter Tryd.func77, Tryd.ntmps77
    go_wp2
    go_ret
    exact ⟨rfl, (Ext.refl _).alloc _⟩
  have t19 : (op == 19) = false := beq_eq_false_iff_ne.2 h19
  by_cases h18 : op = 18
  · subst h18
    go_enter Tryd.func77, Tryd.ntmps77
    go_wp2
    go_ret
    exact ⟨rfl, (Ext.refl _).alloc _⟩
  have t18 : (op == 18) = false := beq_eq_false_iff_ne.2 h18
  by_cases h14 : op = 14
  · subst h14
    go_enter Tryd.func77, Tryd.ntmps77
    go_wp2
    go_ret
    exact ⟨rfl, (Ext.refl _).alloc _⟩
  have t14 : (op == 14) = false := beq_eq_false_iff_ne.2 h14
  by_cases h15 : op = 15
  · subst h15
    go_enter Tryd.func77, Tryd.ntmps77
    go_wp2
    go_ret
    exact ⟨rfl, (Ext.refl _).alloc _⟩
  have t15 : (op == 15) = false := beq_eq_false_iff_ne.2 h15
  by_cases h16 : op = 16
  · subst h16
    go_enter Tryd.func77, Tryd.ntmps77
    go_wp2
    go_ret
    exact ⟨rfl, (Ext.refl _).alloc _⟩
  have t16 : (op == 16) = false := beq_eq_false_iff_ne.2 h16
  by_cases h17 : op = 17
  · subst h17
    go_enter Tryd.func77, Tryd.ntmps77
    go_wp2
    go_ret
    exact ⟨rfl, (Ext.refl _).alloc _⟩
  have t17 : (op == 17) = false := beq_eq_false_iff_ne.2 h17
  by_cases h12 : op = 12
  · subst h12
    go_enter Tryd.func77, Tryd.ntmps77
    go_wp2
    go_ret
    exact ⟨rfl, (Ext.refl _).alloc _⟩
  have t12 : (op == 12) = false := beq_eq_false_iff_ne.2 h12
  by_cases h13 : op = 13
  · subst h13
    go_enter Tryd.func77, Tryd.ntmps77
    go_wp2
    go_ret
    exact ⟨rfl, (Ext.refl _).alloc _⟩
  have t13 : (op == 13) = false := beq_eq_false_iff_ne.2 h13
  by_cases h11 : op = 11
  · subst h11
    go_enter Tryd.func77, Tryd.ntmps77
    go_wp2
    go_ret
    exact ⟨rfl, (Ext.refl _).alloc _⟩
  have t11 : (op == 11) = false := beq_eq_false_iff_ne.2 h11
  by_cases h9 : op = 9
  · subst h9
    go_enter Tryd.func77, Tryd.ntmps77
    go_wp2
    go_ret
    exact ⟨rfl, (Ext.refl _).alloc _⟩
  have t9 : (op == 9) = false := beq_eq_false_iff_ne.2 h9
  by_cases h10 : op = 10
  · subst h10
    go_enter Tryd.func77, Tryd.ntmps77
    go_wp2
    go_ret
    exact ⟨rfl, (Ext.refl _).alloc _⟩
  have t10 : (op == 10) = false := beq_eq_false_iff_ne.2 h10
  by_cases h8 : op = 8
  · subst h8
    go_enter Tryd.func77, Tryd.ntmps77
    go_wp2
    go_ret
    exact ⟨rfl, (Ext.refl _).alloc _⟩
  have t8 : (op == 8) = false := beq_eq_false_iff_ne.2 h8
  have HS : Hid (lvl op = 9) := Lib.hid (by
    unfold lvl
    rw [if_neg h20, if_neg h19, if_neg h18, if_neg (by omega), if_neg (by omega), if_neg h11, if_neg (by omega), if_neg h8])
  clear h20 h19 h18 h14 h15 h16 h17 h12 h13 h11 h9 h10 h8
  go_enter Tryd.func77, Tryd.ntmps77
  go_wp2
  go_ret
  exact ⟨by rw [HS.out]; rfl, (Ext.refl _).alloc _⟩
set_option maxRecDepth 100000 in
theorem sign_c (op : Int) (h1 : 11 ≤ op) (h2 : op ≤ 19) (w : World) : Calls Tryd.prog 78 #[.int .i64 op] w fun r w' => r = .returned (.string (binS op)) ∧ Ext w w' := by
  have : op = 11 ∨ op = 12 ∨ op = 13 ∨ op = 14 ∨ op = 15 ∨ op = 16 ∨ op = 17 ∨ op = 18 ∨ op = 19 := by omega
  clear h1 h2
  rcases this with rfl | rfl | rfl | rfl | rfl | rfl | rfl | rfl | rfl
  all_goals
    go_enter Tryd.func78, Tryd.ntmps78
    go_wp2
    go_ret
    exact ⟨rfl, Ext.refl _⟩
set_option maxRecDepth 100000 in
set_option maxHeartbeats 2000000 in
theorem operand_c (x : E) (hR : RT x) (q : Int) (w : World) (hx : InE w x) : Calls Tryd.prog 76 #[x.v, .int .i64 q] w fun r w' => r = .returned (.string ⟨(par x.op q (txB x)).toArray⟩) ∧ Ext w w' := by
  have LC := fun w' => RLevel_c x.op x.val x.name x.a x.args.length x.cap w'
  have TC := fun w' h => hR.2 w' h
  obtain ⟨Y, hY⟩ : ∃ Y : ByteArray, Y = ⟨(txB x).toArray⟩ := ⟨_, rfl⟩
  have hYs : Y.size ≤ 24000 := by rw [hY, mkS]; exact hR.1
  have HT : (⟨(par x.op q (txB x)).toArray⟩ : ByteArray) = if lvl x.op < q then (⟨#[40]⟩ : ByteArray) ++ Y ++ ⟨#[41]⟩ else Y := by
    by_cases h : lvl x.op < q
    · rw [if_pos h]
      refine baEq ?_
      simp only [baApp, mkL]
      rw [hY, mkL]
      unfold par; rw [if_pos h]; simp
    · rw [if_neg h, hY]
      unfold par; rw [if_neg h]
  simp only [← hY] at TC
  rw [HT]
  have HX := Lib.hid hx
  unfold E.v at TC ⊢
  clear hY HT hx hR
  obtain ⟨xq0, hxq0⟩ : ∃ q, q = x.op := ⟨_, rfl⟩
  obtain ⟨xq1, hxq1⟩ : ∃ q, q = x.val := ⟨_, rfl⟩
  obtain ⟨xq2, hxq2⟩ : ∃ q, q = x.name := ⟨_, rfl⟩
  obtain ⟨xq3, hxq3⟩ : ∃ q, q = x.a := ⟨_, rfl⟩
  obtain ⟨xq4, hxq4⟩ : ∃ q, q = x.args.length := ⟨_, rfl⟩
  obtain ⟨xq5, hxq5⟩ : ∃ q, q = x.cap := ⟨_, rfl⟩
  simp only [← hxq0, ← hxq1, ← hxq2, ← hxq3, ← hxq4, ← hxq5] at LC TC ⊢
  clear hxq0 hxq1 hxq2 hxq3 hxq4 hxq5
  obtain ⟨L, hL⟩ : ∃ L, L = lvl xq0 := ⟨_, rfl⟩
  rw [← hL] at LC ⊢
  clear hL
  replace LC := Lib.hid LC
  replace TC := Lib.hid TC
  have u1 : ¬ 9223372036854775807 < 1 + Y.size := by omega
  have u2 : ¬ 9223372036854775807 < 1 + Y.size + 1 := by omega
  by_cases h : L < q
  · rw [if_pos h]
    have t : decide (L < q) = true := decide_eq_true h
    clear h
    go_enter Tryd.func76, Tryd.ntmps76
    go_wp2_with fail
    obtain ⟨wb, hwb⟩ : ∃ q, q = w.alloc (.cells #[.int .i64 xq0, .int .u64 (xq1 : Int), .string xq2, .slice xq3 xq4 xq5] 44) := ⟨_, rfl⟩
    have c0 : wb.cell? ⟨w.heap.size, 0, none⟩ = some (.int .i64 xq0) := by rw [hwb]; simp
    have c1 : wb.cell? ⟨w.heap.size, 1, none⟩ = some (.int .u64 (xq1 : Int)) := by rw [hwb]; simp
    have c2 : wb.cell? ⟨w.heap.size, 2, none⟩ = some (.string xq2) := by rw [hwb]; simp
    have c3 : wb.cell? ⟨w.heap.size, 3, none⟩ = some (.slice xq3 xq4 xq5) := by rw [hwb]; simp
    have X : Ext w wb := by rw [hwb]; exact (Ext.refl _).alloc _
    rw [← hwb]
    clear hwb
    refine (LC.out _).mono ?_; rintro e1 w1 ⟨rfl, x1⟩
    replace c0 := x1.cell c0
    replace c1 := x1.cell c1
    replace c2 := x1.cell c2
    replace c3 := x1.cell c3
    replace X := X.trans x1
    clear x1
    go_wp2_with fail
    refine (TC.out _ (HX.out.to X)).mono ?_; rintro e2 w2 ⟨rfl, x2⟩
    replace X := X.trans x2
    clear x2 c0 c1 c2 c3
    go_wp2_with fail
    go_ret
    exact ⟨rfl, X⟩
  · rw [if_neg h]
    have t : decide (L < q) = false := decide_eq_false h
    clear h
    go_enter Tryd.func76, Tryd.ntmps76
    go_wp2_with fail
    obtain ⟨wb, hwb⟩ : ∃ q, q = w.alloc (.cells #[.int .i64 xq0, .int .u64 (xq1 : Int), .string xq2, .slice xq3 xq4 xq5] 44) := ⟨_, rfl⟩
    have c0 : wb.cell? ⟨w.heap.size, 0, none⟩ = some (.int .i64 xq0) := by rw [hwb]; simp
    have c1 : wb.cell? ⟨w.heap.size, 1, none⟩ = some (.int .u64 (xq1 : Int)) := by rw [hwb]; simp
    have c2 : wb.cell? ⟨w.heap.size, 2, none⟩ = some (.string xq2) := by rw [hwb]; simp
    have c3 : wb.cell? ⟨w.heap.size, 3, none⟩ = some (.slice xq3 xq4 xq5) := by rw [hwb]; simp
    have X : Ext w wb := by rw [hwb]; exact (Ext.refl _).alloc _
    rw [← hwb]
    clear hwb
    refine (LC.out _).mono ?_; rintro e1 w1 ⟨rfl, x1⟩
    replace c0 := x1.cell c0
    replace c1 := x1.cell c1
    replace c2 := x1.cell c2
    replace c3 := x1.cell c3
    replace X := X.trans x1
    clear x1
    go_wp2_with fail
    refine (TC.out _ (HX.out.to X)).mono ?_; rintro e2 w2 ⟨rfl, x2⟩
    replace X := X.trans x2
    clear x2 c0 c1 c2 c3
    go_wp2_with fail
    go_ret
    exact ⟨rfl, X⟩
def CmRel (A : List E) (w : World) (s3 s4 : Value) (wr : World) : Prop := ∃ j : Nat, s4 = .int .i64 j ∧ j ≤ A.length ∧ s3 = .string ⟨(comF true ((A.map txB).take j)).toArray⟩ ∧ Ext w wr
set_option maxRecDepth 100000 in
set_option maxHeartbeats 4000000 in
theorem commas_c (A : List E) (hR : ∀ (i : Nat) x, A[i]? = some x → RT x) (hl : (comF true (A.map txB)).length ≤ 24000) (n : Nat) (hn : A.length = n) (a : Option Addr) (c : Nat) (w : World) (hA : InL w a A) : Calls Tryd.prog 75 #[.slice a n c] w fun r w' => r = .returned (.string ⟨(comF true (A.map txB)).toArray⟩) ∧ Ext w w' := by
  have HR := Lib.hid hR
  have HL := Lib.hid hA
  have hcap : n ≤ 9223372036854775807 := by rw [← hn]; exact hA.2
  have HN := Lib.hid hn
  have HLE := Lib.hid hl
  clear hR hA hn hl
  obtain ⟨RR, hRR⟩ : ∃ q : ByteArray, q = ⟨(comF true (A.map txB)).toArray⟩ := ⟨_, rfl⟩
  rw [← hRR]
  have HRR := Lib.hid hRR
  clear hRR
  go_enter Tryd.func75, Tryd.ntmps75
  go_wp2_with fail
  go_loopw [3, 4] (CmRel A w) (fun _ s _ => n - (intOf s).toNat)
  case atStart => exact ⟨0, rfl, Nat.zero_le _, rfl, Ext.refl _⟩
  case round =>
    obtain ⟨j, rfl, hj, rfl, hext⟩ := hrel
    rw [HN.out] at hj
    have HX := Lib.hid hext
    clear hext
    by_cases hlt : j < n
    · obtain ⟨x, hxj⟩ := getE (l := A) (i := j) (by rw [HN.out]; exact hlt)
      obtain ⟨⟨b, o, rfl, k0, k1, k2, k3⟩, hin⟩ := (HL.out.to HX.out).at hxj
      have ES : Hid (comF true ((A.map txB).take (j + 1)) = comF true ((A.map txB).take j) ++ ((if j = 0 then [] else (⟨#[44, 32]⟩ : ByteArray).data.toList) ++ txB x)) := Lib.hid (by
        have hm : (A.map txB)[j]? = some (txB x) := by rw [List.getElem?_map, hxj]; rfl
        rw [take_snoc hm, comF_snoc]
        congr 2
        have hjl : ((A.map txB).take j).isEmpty = decide (j = 0) := by
          have q2 : ((A.map txB).take j).length = j := by rw [List.length_take, List.length_map]; have := HN.out; omega
          cases hq : (A.map txB).take j with
          | nil =>
            rw [hq] at q2
            rw [decide_eq_true (show j = 0 from q2.symm)]; rfl
          | cons y ys =>
            rw [hq] at q2
            rw [decide_eq_false (show ¬ j = 0 by simp at q2; omega)]; rfl
        rw [hjl]; by_cases h : j = 0 <;> simp [h])
      have hr := HR.out j x hxj
      have PC := fun w' h => hr.2 w' h
      have HLJ := comF_le true (A.map txB) j
      obtain ⟨P, hP⟩ : ∃ q : ByteArray, q = ⟨(comF true ((A.map txB).take j)).toArray⟩ := ⟨_, rfl⟩
      obtain ⟨Q, hQ⟩ : ∃ q : ByteArray, q = ⟨(txB x).toArray⟩ := ⟨_, rfl⟩
      have HSZ : Hid (P.size ≤ 24000 ∧ Q.size ≤ 24000) := Lib.hid ⟨by rw [hP, mkS]; have := HLE.out; omega, by rw [hQ, mkS]; exact hr.1⟩
      rw [← hP]
      simp only [← hQ] at PC
      have HP := Lib.hid hP
      have HQ := Lib.hid hQ
      have HIN := Lib.hid hin
      unfold E.v at PC
      have um : ¬ 9223372036854775807 < P.size + 2 := by have := HSZ.out; omega
      have um2 : ¬ 9223372036854775807 < P.size + 2 + Q.size := by have := HSZ.out; omega
      clear hP hQ hxj hin hr HLJ
      obtain ⟨xq0, hxq0⟩ : ∃ q, q = x.op := ⟨_, rfl⟩
      obtain ⟨xq1, hxq1⟩ : ∃ q, q = x.val := ⟨_, rfl⟩
      obtain ⟨xq2, hxq2⟩ : ∃ q, q = x.name := ⟨_, rfl⟩
      obtain ⟨xq3, hxq3⟩ : ∃ q, q = x.a := ⟨_, rfl⟩
      obtain ⟨xq4, hxq4⟩ : ∃ q, q = x.args.length := ⟨_, rfl⟩
      obtain ⟨xq5, hxq5⟩ : ∃ q, q = x.cap := ⟨_, rfl⟩
      simp only [← hxq0, ← hxq1, ← hxq2, ← hxq3, ← hxq4, ← hxq5] at k0 k1 k2 k3 PC
      clear hxq0 hxq1 hxq2 hxq3 hxq4 hxq5
      replace PC := Lib.hid PC
      by_cases hj0 : j = 0
      · have tj : ¬ 0 < j := by omega
        have HJ0 := Lib.hid hj0
        clear hj0
        have EV : Hid ((P ++ Q : ByteArray) = ⟨(comF true ((A.map txB).take (j + 1))).toArray⟩) := Lib.hid (by
          refine baEq ?_
          rw [mkL, ES.out, if_pos HJ0.out, HP.out, HQ.out]
          simp only [baApp, mkL]; simp)
        clear um um2
        go_wp2_with fail
        refine (PC.out _ HIN.out).mono ?_; rintro e w2 ⟨rfl, x2⟩
        have X2 := Lib.hid (HX.out.trans x2)
        clear x2 k0 k1 k2 k3
        have um : ¬ 9223372036854775807 < P.size + Q.size := by have := HSZ.out; omega
        go_wp2_with fail
        go_roundw
        case rel => exact ⟨j + 1, by go_num, by rw [HN.out]; omega, by rw [EV.out], X2.out⟩
        case measure => simp [intOf]; omega
      · have tj : 0 < j := by omega
        have HJ0 := Lib.hid hj0
        clear hj0
        have EV : Hid ((P ++ ⟨#[44, 32]⟩ ++ Q : ByteArray) = ⟨(comF true ((A.map txB).take (j + 1))).toArray⟩) := Lib.hid (by
          refine baEq ?_
          rw [mkL, ES.out, if_neg HJ0.out, HP.out, HQ.out]
          simp only [baApp, mkL]; simp)
        go_wp2_with fail
        refine (PC.out _ HIN.out).mono ?_; rintro e w2 ⟨rfl, x2⟩
        have X2 := Lib.hid (HX.out.trans x2)
        clear x2 k0 k1 k2 k3
        clear um um2 tj
        have um : ¬ 9223372036854775807 < P.size + 2 + Q.size := by have := HSZ.out; omega
        go_wp2_with fail
        go_roundw
        case rel => exact ⟨j + 1, by go_num, by rw [HN.out]; omega, by rw [EV.out], X2.out⟩
        case measure => simp [intOf]; omega
    · obtain rfl : j = n := by omega
      have ET : Hid ((A.map txB).take j = A.map txB) := Lib.hid (List.take_of_length_le (by rw [List.length_map, HN.out]; exact Nat.le_refl _))
      rw [ET.out, ← HRR.out]
      have X := HX.out
      go_wp2_with fail
      go_ret
      exact ⟨rfl, X⟩
end Go.Proofs.YtcheigpejbmaoaaDoor
