/- Types of layer 15: tests and texts. Printed by gen/ast1.py. -/
import Derived.Test.YtcheigpejbmaoaaDoorAsN
namespace Go.Proofs.YtcheigpejbmaoaaDoor
open Go.RowKit
/-- Is a type well-formed? -/
def tyOk (k b n : Int) : Bool := decide (0 ≤ n) && (decide (n ≤ 64) && (if k = 1 ∨ k = 2 then decide (b = 0) else if k = 3 then decide (1 ≤ b) && decide (b ≤ 62) else false))
def tyA (k b : Int) : List UInt8 := if k = 2 then [98, 111, 111, 108] else if k = 3 then [117, 105, 110, 116, 32] ++ Lib.decDigits b.toNat else [102, 105, 101, 108, 100]
def tyB (n : Int) : List UInt8 := if 0 < n then [91] ++ (Lib.decDigits n.toNat ++ [93]) else []
/-- The text of a well-formed type. -/
def tyTx (k b n : Int) : List UInt8 := tyA k b ++ tyB n
theorem baEq {a b : ByteArray} (h : a.data.toList = b.data.toList) : a = b := by rw [← Lib.mk_data a, ← Lib.mk_data b, h]
theorem baApp (a b : ByteArray) : (a ++ b).data.toList = a.data.toList ++ b.data.toList := by rw [ByteArray.data_append, Array.toList_append]
theorem toNat_c {z : Int} (h : 0 ≤ z) : ∃ u : Nat, z = (u : Int) := ⟨z.toNat, by omega⟩
set_option maxRecDepth 100000 in
set_option maxHeartbeats 2000000 in
theorem isType_c (k b n : Int) (w : World) : Calls Tryd.prog 44 #[.agg #[.int .i64 k, .int .i64 b, .int .i64 n]] w fun r w' => r = .returned (.bool (tyOk k b n)) ∧ Ext w w' := by
  by_cases h1 : k = 1
  · subst h1
    go_enter Tryd.func44, Tryd.ntmps44
    go_wp2_with fail
    all_goals (go_ret; refine ⟨?_, (Ext.refl _).alloc _⟩; go_light; simp [tyOk, *] <;> (intros; first | rfl | omega))
  by_cases h2 : k = 2
  · subst h2
    go_enter Tryd.func44, Tryd.ntmps44
    go_wp2_with fail
    all_goals (go_ret; refine ⟨?_, (Ext.refl _).alloc _⟩; go_light; simp [tyOk, *] <;> (intros; first | rfl | omega))
  by_cases h3 : k = 3
  · subst h3
    go_enter Tryd.func44, Tryd.ntmps44
    go_wp2_with fail
    all_goals (go_ret; refine ⟨?_, (Ext.refl _).alloc _⟩; go_light; simp [tyOk, *] <;> (intros; first | rfl | omega))
  have t1 : (k == 1) = false := beq_eq_false_iff_ne.2 h1
  have t2 : (k == 2) = false := beq_eq_false_iff_ne.2 h2
  have t3 : (k == 3) = false := beq_eq_false_iff_ne.2 h3
  have HF : Hid (tyOk k b n = false) := Lib.hid (by unfold tyOk; rw [if_neg (by omega), if_neg h3]; simp)
  clear h1 h2 h3
  go_enter Tryd.func44, Tryd.ntmps44
  go_wp2_with fail
  all_goals (go_ret; exact ⟨by rw [HF.out]; rfl, (Ext.refl _).alloc _⟩)
set_option maxRecDepth 100000 in
set_option maxHeartbeats 2000000 in
theorem RType_c (k b n : Int) (w : World) : Calls Tryd.prog 15 #[.agg #[.int .i64 k, .int .i64 b, .int .i64 n]] w fun r w' => r = .returned (.bool (tyOk k b n)) ∧ Ext w w' := by
  by_cases h1 : k = 1
  · subst h1
    go_enter Tryd.func15, Tryd.ntmps15
    go_wp2_with fail
    all_goals (go_ret; refine ⟨?_, (Ext.refl _).alloc _⟩; go_light; simp [tyOk, *] <;> (intros; first | rfl | omega))
  by_cases h2 : k = 2
  · subst h2
    go_enter Tryd.func15, Tryd.ntmps15
    go_wp2_with fail
    all_goals (go_ret; refine ⟨?_, (Ext.refl _).alloc _⟩; go_light; simp [tyOk, *] <;> (intros; first | rfl | omega))
  by_cases h3 : k = 3
  · subst h3
    go_enter Tryd.func15, Tryd.ntmps15
    go_wp2_with fail
    all_goals (go_ret; refine ⟨?_, (Ext.refl _).alloc _⟩; go_light; simp [tyOk, *] <;> (intros; first | rfl | omega))
  have t1 : (k == 1) = false := beq_eq_false_iff_ne.2 h1
  have t2 : (k == 2) = false := beq_eq_false_iff_ne.2 h2
  have t3 : (k == 3) = false := beq_eq_false_iff_ne.2 h3
  have HF : Hid (tyOk k b n = false) := Lib.hid (by unfold tyOk; rw [if_neg (by omega), if_neg h3]; simp)
  clear h1 h2 h3
  go_enter Tryd.func15, Tryd.ntmps15
  go_wp2_with fail
  all_goals (go_ret; exact ⟨by rw [HF.out]; rfl, (Ext.refl _).alloc _⟩)
set_option maxRecDepth 100000 in
set_option maxHeartbeats 4000000 in
theorem typeText_c (k b n : Int) (w : World) (ht : Tab w) (hok : tyOk k b n = true) : Calls Tryd.prog 45 #[.agg #[.int .i64 k, .int .i64 b, .int .i64 n]] w fun r w' => r = .returned (.string ⟨(tyTx k b n).toArray⟩) ∧ Ext w w' := by
  have HT := Lib.hid ht
  unfold tyOk at hok
  simp only [Bool.and_eq_true, decide_eq_true_eq] at hok
  obtain ⟨h0, h64, hk⟩ := hok
  obtain ⟨m, rfl⟩ := toNat_c h0
  have hml := digits_le m (by omega)
  have tn : decide ((0 : Int) < (m : Int)) = decide (0 < m) := by simp
  by_cases hm : 0 < m
  · by_cases h2 : k = 2
    · subst h2
      have hb : b = 0 := by rw [if_pos (.inr rfl)] at hk; exact of_decide_eq_true hk
      subst hb
      clear hk
      have X : Ext w (w.alloc (.cells #[.int .i64 2, .int .i64 0, .int .i64 (m : Int)] 33)) := (Ext.refl _).alloc _
      have c2 : (w.alloc (.cells #[.int .i64 2, .int .i64 0, .int .i64 (m : Int)] 33)).cell? ⟨w.heap.size, 2, none⟩ = some (.int .i64 (m : Int)) := by simp
      have l2 : ¬ 9223372036854775807 < 1 + (Lib.decDigits m).length := by omega
      have l3 : ¬ 9223372036854775807 < 1 + (Lib.decDigits m).length + 1 := by omega
      have l4 : ¬ 9223372036854775807 < 4 + (1 + (Lib.decDigits m).length + 1) := by omega
      have l5 : ¬ 9223372036854775807 < 4 + 1 := by omega
      have l6 : ¬ 9223372036854775807 < 4 + 1 + (Lib.decDigits m).length := by omega
      have l7 : ¬ 9223372036854775807 < 4 + 1 + (Lib.decDigits m).length + 1 := by omega
      go_enter Tryd.func45, Tryd.ntmps45
      go_wp2_with fail
      refine (Itoa_c (m : Int) (by omega) (by omega) _ (HT.out.ext X)).mono ?_; rintro e1 wn ⟨rfl, x1⟩
      rw [Lib.itoa_nonneg]
      replace X := X.trans x1
      replace c2 := x1.cell c2
      clear x1
      go_wp2_with fail
      go_ret
      refine ⟨?_, X⟩
      show Ending.returned (.string _) = _
      congr 2
      apply baEq
      (try simp only [baApp])
      unfold tyTx tyA tyB
      simp [hm]
    by_cases h3 : k = 3
    · subst h3
      have hb : 1 ≤ b ∧ b ≤ 62 := by rw [if_neg (by omega), if_pos rfl] at hk; simpa using hk
      obtain ⟨u, rfl⟩ := toNat_c (z := b) (by omega)
      clear hk h2
      have X : Ext w (w.alloc (.cells #[.int .i64 3, .int .i64 (u : Int), .int .i64 (m : Int)] 33)) := (Ext.refl _).alloc _
      have c2 : (w.alloc (.cells #[.int .i64 3, .int .i64 (u : Int), .int .i64 (m : Int)] 33)).cell? ⟨w.heap.size, 2, none⟩ = some (.int .i64 (m : Int)) := by simp
      have hul := digits_le u (by omega)
      have l1 : ¬ 9223372036854775807 < 5 + (Lib.decDigits u).length := by omega
      have l2 : ¬ 9223372036854775807 < 1 + (Lib.decDigits m).length := by omega
      have l3 : ¬ 9223372036854775807 < 1 + (Lib.decDigits m).length + 1 := by omega
      have l4 : ¬ 9223372036854775807 < (5 + (Lib.decDigits u).length) + (1 + (Lib.decDigits m).length + 1) := by omega
      have l5 : ¬ 9223372036854775807 < (5 + (Lib.decDigits u).length) + 1 := by omega
      have l6 : ¬ 9223372036854775807 < (5 + (Lib.decDigits u).length) + 1 + (Lib.decDigits m).length := by omega
      have l7 : ¬ 9223372036854775807 < (5 + (Lib.decDigits u).length) + 1 + (Lib.decDigits m).length + 1 := by omega
      go_enter Tryd.func45, Tryd.ntmps45
      go_wp2_with fail
      refine (Itoa_c (u : Int) (by omega) (by omega) _ (HT.out.ext X)).mono ?_; rintro e1 wn ⟨rfl, x1⟩
      rw [Lib.itoa_nonneg]
      replace X := X.trans x1
      replace c2 := x1.cell c2
      clear x1
      go_wp2_with fail
      refine (Itoa_c (m : Int) (by omega) (by omega) _ (HT.out.ext X)).mono ?_; rintro e1 wn ⟨rfl, x1⟩
      rw [Lib.itoa_nonneg]
      replace X := X.trans x1
      replace c2 := x1.cell c2
      clear x1
      go_wp2_with fail
      go_ret
      refine ⟨?_, X⟩
      show Ending.returned (.string _) = _
      congr 2
      apply baEq
      (try simp only [baApp])
      unfold tyTx tyA tyB
      simp [hm]
    · have h1 : k = 1 := by
        by_cases q : k = 1 ∨ k = 2
        · omega
        · rw [if_neg q, if_neg h3] at hk; cases hk
      subst h1
      have hb : b = 0 := by rw [if_pos (.inl rfl)] at hk; exact of_decide_eq_true hk
      subst hb
      clear hk h2 h3
      have X : Ext w (w.alloc (.cells #[.int .i64 1, .int .i64 0, .int .i64 (m : Int)] 33)) := (Ext.refl _).alloc _
      have c2 : (w.alloc (.cells #[.int .i64 1, .int .i64 0, .int .i64 (m : Int)] 33)).cell? ⟨w.heap.size, 2, none⟩ = some (.int .i64 (m : Int)) := by simp
      have l2 : ¬ 9223372036854775807 < 1 + (Lib.decDigits m).length := by omega
      have l3 : ¬ 9223372036854775807 < 1 + (Lib.decDigits m).length + 1 := by omega
      have l4 : ¬ 9223372036854775807 < 5 + (1 + (Lib.decDigits m).length + 1) := by omega
      have l5 : ¬ 9223372036854775807 < 5 + 1 := by omega
      have l6 : ¬ 9223372036854775807 < 5 + 1 + (Lib.decDigits m).length := by omega
      have l7 : ¬ 9223372036854775807 < 5 + 1 + (Lib.decDigits m).length + 1 := by omega
      go_enter Tryd.func45, Tryd.ntmps45
      go_wp2_with fail
      refine (Itoa_c (m : Int) (by omega) (by omega) _ (HT.out.ext X)).mono ?_; rintro e1 wn ⟨rfl, x1⟩
      rw [Lib.itoa_nonneg]
      replace X := X.trans x1
      replace c2 := x1.cell c2
      clear x1
      go_wp2_with fail
      go_ret
      refine ⟨?_, X⟩
      show Ending.returned (.string _) = _
      congr 2
      apply baEq
      (try simp only [baApp])
      unfold tyTx tyA tyB
      simp [hm]
  · by_cases h2 : k = 2
    · subst h2
      have hb : b = 0 := by rw [if_pos (.inr rfl)] at hk; exact of_decide_eq_true hk
      subst hb
      clear hk
      have X : Ext w (w.alloc (.cells #[.int .i64 2, .int .i64 0, .int .i64 (m : Int)] 33)) := (Ext.refl _).alloc _
      have c2 : (w.alloc (.cells #[.int .i64 2, .int .i64 0, .int .i64 (m : Int)] 33)).cell? ⟨w.heap.size, 2, none⟩ = some (.int .i64 (m : Int)) := by simp
      go_enter Tryd.func45, Tryd.ntmps45
      go_wp2_with fail
      go_ret
      refine ⟨?_, X⟩
      show Ending.returned (.string _) = _
      congr 2
      apply baEq
      (try simp only [])
      unfold tyTx tyA tyB
      simp [hm]
    by_cases h3 : k = 3
    · subst h3
      have hb : 1 ≤ b ∧ b ≤ 62 := by rw [if_neg (by omega), if_pos rfl] at hk; simpa using hk
      obtain ⟨u, rfl⟩ := toNat_c (z := b) (by omega)
      clear hk h2
      have X : Ext w (w.alloc (.cells #[.int .i64 3, .int .i64 (u : Int), .int .i64 (m : Int)] 33)) := (Ext.refl _).alloc _
      have c2 : (w.alloc (.cells #[.int .i64 3, .int .i64 (u : Int), .int .i64 (m : Int)] 33)).cell? ⟨w.heap.size, 2, none⟩ = some (.int .i64 (m : Int)) := by simp
      have hul := digits_le u (by omega)
      have l1 : ¬ 9223372036854775807 < 5 + (Lib.decDigits u).length := by omega
      go_enter Tryd.func45, Tryd.ntmps45
      go_wp2_with fail
      refine (Itoa_c (u : Int) (by omega) (by omega) _ (HT.out.ext X)).mono ?_; rintro e1 wn ⟨rfl, x1⟩
      rw [Lib.itoa_nonneg]
      replace X := X.trans x1
      replace c2 := x1.cell c2
      clear x1
      go_wp2_with fail
      go_ret
      refine ⟨?_, X⟩
      show Ending.returned (.string _) = _
      congr 2
      apply baEq
      (try simp only [baApp])
      unfold tyTx tyA tyB
      simp [hm]
    · have h1 : k = 1 := by
        by_cases q : k = 1 ∨ k = 2
        · omega
        · rw [if_neg q, if_neg h3] at hk; cases hk
      subst h1
      have hb : b = 0 := by rw [if_pos (.inl rfl)] at hk; exact of_decide_eq_true hk
      subst hb
      clear hk h2 h3
      have X : Ext w (w.alloc (.cells #[.int .i64 1, .int .i64 0, .int .i64 (m : Int)] 33)) := (Ext.refl _).alloc _
      have c2 : (w.alloc (.cells #[.int .i64 1, .int .i64 0, .int .i64 (m : Int)] 33)).cell? ⟨w.heap.size, 2, none⟩ = some (.int .i64 (m : Int)) := by simp
      go_enter Tryd.func45, Tryd.ntmps45
      go_wp2_with fail
      go_ret
      refine ⟨?_, X⟩
      show Ending.returned (.string _) = _
      congr 2
      apply baEq
      (try simp only [])
      unfold tyTx tyA tyB
      simp [hm]
set_option maxRecDepth 100000 in
set_option maxHeartbeats 4000000 in
theorem RTypeText_c (k b n : Int) (w : World) (ht : Tab w) (hok : tyOk k b n = true) : Calls Tryd.prog 16 #[.agg #[.int .i64 k, .int .i64 b, .int .i64 n]] w fun r w' => r = .returned (.string ⟨(tyTx k b n).toArray⟩) ∧ Ext w w' := by
  have HT := Lib.hid ht
  unfold tyOk at hok
  simp only [Bool.and_eq_true, decide_eq_true_eq] at hok
  obtain ⟨h0, h64, hk⟩ := hok
  obtain ⟨m, rfl⟩ := toNat_c h0
  have hml := digits_le m (by omega)
  have tn : decide ((0 : Int) < (m : Int)) = decide (0 < m) := by simp
  by_cases hm : 0 < m
  · by_cases h2 : k = 2
    · subst h2
      have hb : b = 0 := by rw [if_pos (.inr rfl)] at hk; exact of_decide_eq_true hk
      subst hb
      clear hk
      have X : Ext w (w.alloc (.cells #[.int .i64 2, .int .i64 0, .int .i64 (m : Int)] 33)) := (Ext.refl _).alloc _
      have c2 : (w.alloc (.cells #[.int .i64 2, .int .i64 0, .int .i64 (m : Int)] 33)).cell? ⟨w.heap.size, 2, none⟩ = some (.int .i64 (m : Int)) := by simp
      have l2 : ¬ 9223372036854775807 < 1 + (Lib.decDigits m).length := by omega
      have l3 : ¬ 9223372036854775807 < 1 + (Lib.decDigits m).length + 1 := by omega
      have l4 : ¬ 9223372036854775807 < 4 + (1 + (Lib.decDigits m).length + 1) := by omega
      have l5 : ¬ 9223372036854775807 < 4 + 1 := by omega
      have l6 : ¬ 9223372036854775807 < 4 + 1 + (Lib.decDigits m).length := by omega
      have l7 : ¬ 9223372036854775807 < 4 + 1 + (Lib.decDigits m).length + 1 := by omega
      go_enter Tryd.func16, Tryd.ntmps16
      go_wp2_with fail
      refine (Digits_c m (by omega) _).mono ?_; rintro e1 wn ⟨rfl, x1⟩
      replace X := X.trans x1
      replace c2 := x1.cell c2
      clear x1
      go_wp2_with fail
      go_ret
      refine ⟨?_, X⟩
      show Ending.returned (.string _) = _
      congr 2
      apply baEq
      (try simp only [baApp])
      unfold tyTx tyA tyB
      simp [hm]
    by_cases h3 : k = 3
    · subst h3
      have hb : 1 ≤ b ∧ b ≤ 62 := by rw [if_neg (by omega), if_pos rfl] at hk; simpa using hk
      obtain ⟨u, rfl⟩ := toNat_c (z := b) (by omega)
      clear hk h2
      have X : Ext w (w.alloc (.cells #[.int .i64 3, .int .i64 (u : Int), .int .i64 (m : Int)] 33)) := (Ext.refl _).alloc _
      have c2 : (w.alloc (.cells #[.int .i64 3, .int .i64 (u : Int), .int .i64 (m : Int)] 33)).cell? ⟨w.heap.size, 2, none⟩ = some (.int .i64 (m : Int)) := by simp
      have hul := digits_le u (by omega)
      have l1 : ¬ 9223372036854775807 < 5 + (Lib.decDigits u).length := by omega
      have l2 : ¬ 9223372036854775807 < 1 + (Lib.decDigits m).length := by omega
      have l3 : ¬ 9223372036854775807 < 1 + (Lib.decDigits m).length + 1 := by omega
      have l4 : ¬ 9223372036854775807 < (5 + (Lib.decDigits u).length) + (1 + (Lib.decDigits m).length + 1) := by omega
      have l5 : ¬ 9223372036854775807 < (5 + (Lib.decDigits u).length) + 1 := by omega
      have l6 : ¬ 9223372036854775807 < (5 + (Lib.decDigits u).length) + 1 + (Lib.decDigits m).length := by omega
      have l7 : ¬ 9223372036854775807 < (5 + (Lib.decDigits u).length) + 1 + (Lib.decDigits m).length + 1 := by omega
      go_enter Tryd.func16, Tryd.ntmps16
      go_wp2_with fail
      refine (Digits_c u (by omega) _).mono ?_; rintro e1 wn ⟨rfl, x1⟩
      replace X := X.trans x1
      replace c2 := x1.cell c2
      clear x1
      go_wp2_with fail
      refine (Digits_c m (by omega) _).mono ?_; rintro e1 wn ⟨rfl, x1⟩
      replace X := X.trans x1
      replace c2 := x1.cell c2
      clear x1
      go_wp2_with fail
      go_ret
      refine ⟨?_, X⟩
      show Ending.returned (.string _) = _
      congr 2
      apply baEq
      (try simp only [baApp])
      unfold tyTx tyA tyB
      simp [hm]
    · have h1 : k = 1 := by
        by_cases q : k = 1 ∨ k = 2
        · omega
        · rw [if_neg q, if_neg h3] at hk; cases hk
      subst h1
      have hb : b = 0 := by rw [if_pos (.inl rfl)] at hk; exact of_decide_eq_true hk
      subst hb
      clear hk h2 h3
      have X : Ext w (w.alloc (.cells #[.int .i64 1, .int .i64 0, .int .i64 (m : Int)] 33)) := (Ext.refl _).alloc _
      have c2 : (w.alloc (.cells #[.int .i64 1, .int .i64 0, .int .i64 (m : Int)] 33)).cell? ⟨w.heap.size, 2, none⟩ = some (.int .i64 (m : Int)) := by simp
      have l2 : ¬ 9223372036854775807 < 1 + (Lib.decDigits m).length := by omega
      have l3 : ¬ 9223372036854775807 < 1 + (Lib.decDigits m).length + 1 := by omega
      have l4 : ¬ 9223372036854775807 < 5 + (1 + (Lib.decDigits m).length + 1) := by omega
      have l5 : ¬ 9223372036854775807 < 5 + 1 := by omega
      have l6 : ¬ 9223372036854775807 < 5 + 1 + (Lib.decDigits m).length := by omega
      have l7 : ¬ 9223372036854775807 < 5 + 1 + (Lib.decDigits m).length + 1 := by omega
      go_enter Tryd.func16, Tryd.ntmps16
      go_wp2_with fail
      refine (Digits_c m (by omega) _).mono ?_; rintro e1 wn ⟨rfl, x1⟩
      replace X := X.trans x1
      replace c2 := x1.cell c2
      clear x1
      go_wp2_with fail
      go_ret
      refine ⟨?_, X⟩
      show Ending.returned (.string _) = _
      congr 2
      apply baEq
      (try simp only [baApp])
      unfold tyTx tyA tyB
      simp [hm]
  · by_cases h2 : k = 2
    · subst h2
      have hb : b = 0 := by rw [if_pos (.inr rfl)] at hk; exact of_decide_eq_true hk
      subst hb
      clear hk
      have X : Ext w (w.alloc (.cells #[.int .i64 2, .int .i64 0, .int .i64 (m : Int)] 33)) := (Ext.refl _).alloc _
      have c2 : (w.alloc (.cells #[.int .i64 2, .int .i64 0, .int .i64 (m : Int)] 33)).cell? ⟨w.heap.size, 2, none⟩ = some (.int .i64 (m : Int)) := by simp
      go_enter Tryd.func16, Tryd.ntmps16
      go_wp2_with fail
      go_ret
      refine ⟨?_, X⟩
      show Ending.returned (.string _) = _
      congr 2
      apply baEq
      (try simp only [])
      unfold tyTx tyA tyB
      simp [hm]
    by_cases h3 : k = 3
    · subst h3
      have hb : 1 ≤ b ∧ b ≤ 62 := by rw [if_neg (by omega), if_pos rfl] at hk; simpa using hk
      obtain ⟨u, rfl⟩ := toNat_c (z := b) (by omega)
      clear hk h2
      have X : Ext w (w.alloc (.cells #[.int .i64 3, .int .i64 (u : Int), .int .i64 (m : Int)] 33)) := (Ext.refl _).alloc _
      have c2 : (w.alloc (.cells #[.int .i64 3, .int .i64 (u : Int), .int .i64 (m : Int)] 33)).cell? ⟨w.heap.size, 2, none⟩ = some (.int .i64 (m : Int)) := by simp
      have hul := digits_le u (by omega)
      have l1 : ¬ 9223372036854775807 < 5 + (Lib.decDigits u).length := by omega
      go_enter Tryd.func16, Tryd.ntmps16
      go_wp2_with fail
      refine (Digits_c u (by omega) _).mono ?_; rintro e1 wn ⟨rfl, x1⟩
      replace X := X.trans x1
      replace c2 := x1.cell c2
      clear x1
      go_wp2_with fail
      go_ret
      refine ⟨?_, X⟩
      show Ending.returned (.string _) = _
      congr 2
      apply baEq
      (try simp only [baApp])
      unfold tyTx tyA tyB
      simp [hm]
    · have h1 : k = 1 := by
        by_cases q : k = 1 ∨ k = 2
        · omega
        · rw [if_neg q, if_neg h3] at hk; cases hk
      subst h1
      have hb : b = 0 := by rw [if_pos (.inl rfl)] at hk; exact of_decide_eq_true hk
      subst hb
      clear hk h2 h3
      have X : Ext w (w.alloc (.cells #[.int .i64 1, .int .i64 0, .int .i64 (m : Int)] 33)) := (Ext.refl _).alloc _
      have c2 : (w.alloc (.cells #[.int .i64 1, .int .i64 0, .int .i64 (m : Int)] 33)).cell? ⟨w.heap.size, 2, none⟩ = some (.int .i64 (m : Int)) := by simp
      go_enter Tryd.func16, Tryd.ntmps16
      go_wp2_with fail
      go_ret
      refine ⟨?_, X⟩
      show Ending.returned (.string _) = _
      congr 2
      apply baEq
      (try simp only [])
      unfold tyTx tyA tyB
      simp [hm]
end Go.Proofs.YtcheigpejbmaoaaDoor
