/- Walks of laws of layer 4. -/
import Derived.Test.YtcnbinjoeilfgaaTA
import Derived.Test.YtcnbinjoeilfgaaLaw
namespace Go.Proofs.Ytcnbinjoeilfgaa
open Go.RowKit

theorem rE_len (p : Nat) (l : List Nat) (s : Nat) (n : Int) : (rE p l s n).1.length ≤ 4096 := by
  unfold rE
  split
  · simp
  · split
    · rename_i h
      split
      · obtain ⟨_, k, hk, hn, _, _⟩ := okT_spec h.1
        show (reva _ _ _ _ _).length ≤ 4096
        unfold reva; rw [tab_len, hn, Int.toNat_natCast]; exact pow_le12 hk
      · simp
    · simp
theorem rI_len (p : Nat) (v : List Nat) (s : Nat) : (rI p v s).1.length ≤ 4096 := by
  unfold rI
  split
  · simp
  · split
    · rename_i h
      obtain ⟨_, k, hk, hn, _, _⟩ := okT_spec h.1
      show (rintl _ _ _ _ _).length ≤ 4096
      unfold rintl; rw [tab_len]
      have := pow_le12 hk
      omega
    · simp
theorem tD_len (p s : Nat) (n : Int) : (tD p s n).1.length ≤ 4096 := by
  unfold tD
  split
  · simp
  · split
    · rename_i h
      obtain ⟨_, k, hk, hn, _, _⟩ := okT_spec h.1
      show (rdom _ _ _ _).length ≤ 4096
      unfold rdom; rw [tab_len, hn, Int.toNat_natCast]; exact pow_le12 hk
    · simp

set_option maxRecDepth 100000 in
set_option maxHeartbeats 4000000 in
theorem TransformForward_w (p : Nat) (l : List Nat) (a : Option Addr) (c : Nat) (w : World) (ha : Rd w a l) :
    Calls Try.prog 3 #[.int .u64 p, .slice a l.length c] w fun e w' => e = .returned (.bool true) ∧ Ext w w' := by
  have HA := Lib.hid ha
  clear ha
  by_cases hf : l.length ≤ 64
  case neg =>
    have hd0 : decide ((64 : Int) < l.length) = true := decide_eq_true (by omega)
    clear hf
    go_enter Try.func3, Try.ntmps3
    go_wp2_with fail
    refine (awake4_c _).mono ?_; rintro e w1 ⟨rfl, x2⟩
    have X := x2
    clear x2
    go_wp2_with fail
    refine (awake4_c _).mono ?_; rintro e w3 ⟨rfl, x4⟩
    replace X := X.trans x4
    clear x4
    go_wp2_with fail
    go_ret
    exact ⟨rfl, X⟩
  have hd0 : decide ((64 : Int) < l.length) = false := decide_eq_false (by omega)
  have FC := fun w' (h : Rd w' a l) => Forward_c p l a c w' h (by omega)
  have RC := fun w' (h : Rd w' a l) => REvaluate_c p l 1 l.length a c w' h (by omega) (by omega) (by omega)
  have IC := fun w' (h : Rd w' a l) => Inverse_c p l a c w' h (by omega)
  have NC := fun w' (h : Rd w' a l) => RInterp_c p l 1 a c w' h (by omega)
  have k1 := rE_len p l 1 l.length
  have k2 := rI_len p l 1
  rw [Q.tF_same] at FC
  rw [Q.tI_same] at IC
  obtain ⟨⟨A, e1⟩, hA⟩ : ∃ x, x = rE p l 1 l.length := ⟨_, rfl⟩
  obtain ⟨⟨B, e2⟩, hB⟩ : ∃ x, x = rI p l 1 := ⟨_, rfl⟩
  rw [← hA] at FC RC k1
  rw [← hB] at IC NC k2
  have HF := Lib.hid FC
  have HR : Hid (∀ w', Rd w' a l → Calls Try.prog 14 #[.int .u64 p, .slice a l.length c, .int .u64 1, .int .i64 l.length] w' (IPost w' A e1)) := Lib.hid RC
  have HI := Lib.hid IC
  have HN : Hid (∀ w', Rd w' a l → Calls Try.prog 16 #[.int .u64 p, .slice a l.length c, .int .u64 1] w' (IPost w' B e2)) := Lib.hid NC
  have t1 : (e1 == e1) = true := by simp
  have t2 : (e2 == e2) = true := by simp
  have q1 : Hid (A.length ≤ 4096 ∧ B.length ≤ 4096) := Lib.hid ⟨k1, k2⟩
  clear FC RC IC NC hA hB k1 k2
  go_enter Try.func3, Try.ntmps3
  go_wp2_with fail
  refine (awake4_c _).mono ?_; rintro e w1 ⟨rfl, x2⟩
  have X := x2
  clear x2
  have ha := HA.out.ext X
  go_wp2_with fail
  refine (HF.out _ ha).mono ?_; rintro e w3 ⟨v, rfl, o5, x4⟩
  obtain ⟨r1_a, r1_c, rfl, _, _, r1⟩ := o5.form
  replace ha := ha.ext x4
  replace X := X.trans x4
  clear x4 o5
  go_wp2_with fail
  refine (HR.out _ ha).mono ?_; rintro e w6 ⟨v, rfl, o8, x7⟩
  obtain ⟨r2_a, r2_c, rfl, _, _, r2⟩ := o8.form
  replace ha := ha.ext x7
  replace r1 := r1.ext x7
  replace X := X.trans x7
  clear x7 o8
  go_wp2_with fail
  refine (HI.out _ ha).mono ?_; rintro e w9 ⟨v, rfl, o11, x10⟩
  obtain ⟨r3_a, r3_c, rfl, _, _, r3⟩ := o11.form
  replace ha := ha.ext x10
  replace r1 := r1.ext x10
  replace r2 := r2.ext x10
  replace X := X.trans x10
  clear x10 o11
  go_wp2_with fail
  refine (HN.out _ ha).mono ?_; rintro e w12 ⟨v, rfl, o14, x13⟩
  obtain ⟨r4_a, r4_c, rfl, _, _, r4⟩ := o14.form
  replace ha := ha.ext x13
  replace r1 := r1.ext x13
  replace r2 := r2.ext x13
  replace r3 := r3.ext x13
  replace X := X.trans x13
  clear x13 o14
  go_wp2_with fail
  refine (same4n A _ _ _ _ _ _ rfl r1 r2 (by have := q1.out.1; omega)).mono ?_; rintro e w15 ⟨rfl, x16⟩
  replace ha := ha.ext x16
  replace r1 := r1.ext x16
  replace r2 := r2.ext x16
  replace r3 := r3.ext x16
  replace r4 := r4.ext x16
  replace X := X.trans x16
  clear x16
  go_wp2_with fail
  refine (same4n B _ _ _ _ _ _ rfl r3 r4 (by have := q1.out.2; omega)).mono ?_; rintro e w17 ⟨rfl, x18⟩
  replace ha := ha.ext x18
  replace r1 := r1.ext x18
  replace r2 := r2.ext x18
  replace r3 := r3.ext x18
  replace r4 := r4.ext x18
  replace X := X.trans x18
  clear x18
  go_wp2_with fail
  go_ret
  exact ⟨rfl, X⟩

set_option maxRecDepth 100000 in
set_option maxHeartbeats 4000000 in
theorem TransformDomain_w (p s : Nat) (n : Int) (w : World) (hn : n ≤ 9223372036854775807) (hn2 : -9223372036854775808 ≤ n) :
    Calls Try.prog 4 #[.int .u64 p, .int .u64 s, .int .i64 n] w fun e w' => e = .returned (.bool true) ∧ Ext w w' := by
  by_cases hf : 64 < n ∧ n ≤ 4096
  case pos =>
    have hd0 : decide ((64 : Int) < n) = true := decide_eq_true (by omega)
    have hd1 : decide (n ≤ (4096 : Int)) = true := decide_eq_true (by omega)
    clear hf
    go_enter Try.func4, Try.ntmps4
    go_wp2_with fail
    refine (awake4_c _).mono ?_; rintro e w1 ⟨rfl, x2⟩
    have X := x2
    clear x2
    go_wp2_with fail
    refine (awake4_c _).mono ?_; rintro e w3 ⟨rfl, x4⟩
    replace X := X.trans x4
    clear x4
    go_wp2_with fail
    go_ret
    exact ⟨rfl, X⟩
  have DC := fun w' => Domain_c p s n w' hn hn2
  have RC := fun w' => RDomain_c p s n w' hn hn2
  have k1 := tD_len p s n
  obtain ⟨⟨A, e1⟩, hA⟩ : ∃ x, x = tD p s n := ⟨_, rfl⟩
  rw [← hA] at DC RC k1
  have HD := Lib.hid DC
  have HR := Lib.hid RC
  have t1 : (e1 == e1) = true := by simp
  have q1 : Hid (A.length ≤ 4096) := Lib.hid k1
  clear DC RC hA k1
  by_cases h1 : 64 < n
  · have hd0 : decide ((64 : Int) < n) = true := decide_eq_true h1
    have hd1 : decide (n ≤ (4096 : Int)) = false := decide_eq_false (by omega)
    clear hf h1
    go_enter Try.func4, Try.ntmps4
    go_wp2_with fail
    refine (awake4_c _).mono ?_; rintro e w1 ⟨rfl, x2⟩
    have X := x2
    clear x2
    go_wp2_with fail
    refine (HD.out _).mono ?_; rintro e w3 ⟨v, rfl, o5, x4⟩
    obtain ⟨r1_a, r1_c, rfl, _, _, r1⟩ := o5.form
    replace X := X.trans x4
    clear x4 o5
    go_wp2_with fail
    refine (HR.out _).mono ?_; rintro e w6 ⟨v, rfl, o8, x7⟩
    obtain ⟨r2_a, r2_c, rfl, _, _, r2⟩ := o8.form
    replace r1 := r1.ext x7
    replace X := X.trans x7
    clear x7 o8
    go_wp2_with fail
    refine (same4n A _ _ _ _ _ _ rfl r1 r2 (by have := q1.out; omega)).mono ?_; rintro e w9 ⟨rfl, x10⟩
    replace r1 := r1.ext x10
    replace r2 := r2.ext x10
    replace X := X.trans x10
    clear x10
    go_wp2_with fail
    go_ret
    exact ⟨rfl, X⟩
  · have hd0 : decide ((64 : Int) < n) = false := decide_eq_false h1
    clear hf h1
    go_enter Try.func4, Try.ntmps4
    go_wp2_with fail
    refine (awake4_c _).mono ?_; rintro e w1 ⟨rfl, x2⟩
    have X := x2
    clear x2
    go_wp2_with fail
    refine (HD.out _).mono ?_; rintro e w3 ⟨v, rfl, o5, x4⟩
    obtain ⟨r1_a, r1_c, rfl, _, _, r1⟩ := o5.form
    replace X := X.trans x4
    clear x4 o5
    go_wp2_with fail
    refine (HR.out _).mono ?_; rintro e w6 ⟨v, rfl, o8, x7⟩
    obtain ⟨r2_a, r2_c, rfl, _, _, r2⟩ := o8.form
    replace r1 := r1.ext x7
    replace X := X.trans x7
    clear x7 o8
    go_wp2_with fail
    refine (same4n A _ _ _ _ _ _ rfl r1 r2 (by have := q1.out; omega)).mono ?_; rintro e w9 ⟨rfl, x10⟩
    replace r1 := r1.ext x10
    replace r2 := r2.ext x10
    replace X := X.trans x10
    clear x10
    go_wp2_with fail
    go_ret
    exact ⟨rfl, X⟩

set_option maxHeartbeats 1000000 in
theorem small_c (p s : Nat) (n : Int) (l : List Nat) (a : Option Addr) (c : Nat) (w : World) :
    Calls Try.prog 20 #[.agg #[.int .u64 p, .slice a l.length c, .int .u64 s, .int .i64 n]] w fun e w' => e = .returned (.bool (decide (l.length ≤ 80 ∧ (n ≤ 64 ∨ 4096 < n)))) ∧ Ext w w' := by
  by_cases h1 : l.length ≤ 80
  case neg =>
    have t1 : decide ((l.length : Int) ≤ 80) = false := decide_eq_false (by omega)
    have E : Hid (decide (l.length ≤ 80 ∧ (n ≤ 64 ∨ 4096 < n)) = false) := Lib.hid (decide_eq_false (by omega))
    clear h1
    go_enter Try.func20, Try.ntmps20
    go_wp2
    go_ret
    exact ⟨by rw [E.out]; rfl, (Ext.refl _).alloc _⟩
  have t1 : decide ((l.length : Int) ≤ 80) = true := decide_eq_true (by omega)
  by_cases h2 : n ≤ 64
  · have t2 : decide (n ≤ 64) = true := decide_eq_true h2
    have E : Hid (decide (l.length ≤ 80 ∧ (n ≤ 64 ∨ 4096 < n)) = true) := Lib.hid (decide_eq_true (by omega))
    clear h1 h2
    go_enter Try.func20, Try.ntmps20
    go_wp2
    go_ret
    exact ⟨by rw [E.out]; rfl, (Ext.refl _).alloc _⟩
  have t2 : decide (n ≤ 64) = false := decide_eq_false h2
  by_cases h3 : 4096 < n
  · have t3 : decide ((4096 : Int) < n) = true := decide_eq_true h3
    have E : Hid (decide (l.length ≤ 80 ∧ (n ≤ 64 ∨ 4096 < n)) = true) := Lib.hid (decide_eq_true (by omega))
    clear h1 h2 h3
    go_enter Try.func20, Try.ntmps20
    go_wp2
    go_ret
    exact ⟨by rw [E.out]; rfl, (Ext.refl _).alloc _⟩
  have t3 : decide ((4096 : Int) < n) = false := decide_eq_false h3
  have E : Hid (decide (l.length ≤ 80 ∧ (n ≤ 64 ∨ 4096 < n)) = false) := Lib.hid (decide_eq_false (by omega))
  clear h1 h2 h3
  go_enter Try.func20, Try.ntmps20
  go_wp2
  go_ret
  exact ⟨by rw [E.out]; rfl, (Ext.refl _).alloc _⟩

set_option maxRecDepth 100000 in
set_option maxHeartbeats 4000000 in
theorem TransformEvaluate_w (p : Nat) (l : List Nat) (s : Nat) (n : Int) (a : Option Addr) (c : Nat) (w : World) (ha : Rd w a l) (hn : n ≤ 9223372036854775807) (hn2 : -9223372036854775808 ≤ n) :
    Calls Try.prog 5 #[.agg #[.int .u64 p, .slice a l.length c, .int .u64 s, .int .i64 n]] w fun e w' => e = .returned (.bool true) ∧ Ext w w' := by
  have HA := Lib.hid ha
  clear ha
  have h0 : (w.alloc (.cells #[.int .u64 p, .slice a l.length c, .int .u64 s, .int .i64 n] 38)).cell? ⟨w.heap.size, 0, none⟩ = some (.int .u64 p) := by simp
  have h1 : (w.alloc (.cells #[.int .u64 p, .slice a l.length c, .int .u64 s, .int .i64 n] 38)).cell? ⟨w.heap.size, 1, none⟩ = some (.slice a l.length c) := by simp
  have h2 : (w.alloc (.cells #[.int .u64 p, .slice a l.length c, .int .u64 s, .int .i64 n] 38)).cell? ⟨w.heap.size, 2, none⟩ = some (.int .u64 s) := by simp
  have h3 : (w.alloc (.cells #[.int .u64 p, .slice a l.length c, .int .u64 s, .int .i64 n] 38)).cell? ⟨w.heap.size, 3, none⟩ = some (.int .i64 n) := by simp
  have SC := Lib.hid (fun w' => small_c p s n l a c w')
  by_cases hf : l.length ≤ 80 ∧ (n ≤ 64 ∨ 4096 < n)
  case neg =>
    have F : Hid (decide (l.length ≤ 80 ∧ (n ≤ 64 ∨ 4096 < n)) = false) := Lib.hid (decide_eq_false hf)
    clear hf
    go_enter Try.func5, Try.ntmps5
    go_wp2_with fail
    refine (awake4_c _).mono ?_; rintro e w1 ⟨rfl, x0⟩
    replace h0 := x0.cell h0
    replace h1 := x0.cell h1
    replace h2 := x0.cell h2
    replace h3 := x0.cell h3
    have X := x0.box
    clear x0
    go_wp2_with fail
    refine (SC.out _).mono ?_; rintro e w2 ⟨rfl, x3⟩
    replace h0 := x3.cell h0
    replace h1 := x3.cell h1
    replace h2 := x3.cell h2
    replace h3 := x3.cell h3
    replace X := X.trans x3
    clear x3
    rw [F.out]
    go_wp2_with fail
    refine (awake4_c _).mono ?_; rintro e w4 ⟨rfl, x5⟩
    replace h0 := x5.cell h0
    replace h1 := x5.cell h1
    replace h2 := x5.cell h2
    replace h3 := x5.cell h3
    replace X := X.trans x5
    clear x5
    go_wp2_with fail
    go_ret
    exact ⟨rfl, X⟩
  have F : Hid (decide (l.length ≤ 80 ∧ (n ≤ 64 ∨ 4096 < n)) = true) := Lib.hid (decide_eq_true hf)
  have EC := fun w' (h : Rd w' a l) => Evaluate_c p l s n a c w' h (by omega) hn hn2
  have RC := fun w' (h : Rd w' a l) => REvaluate_c p l s n a c w' h (by omega) hn hn2
  have k1 := rE_len p l s n
  rw [Q.tE_same] at EC
  obtain ⟨⟨A, e1⟩, hA⟩ : ∃ x, x = rE p l s n := ⟨_, rfl⟩
  rw [← hA] at EC RC k1
  have HE := Lib.hid EC
  have HR := Lib.hid RC
  have t1 : (e1 == e1) = true := by simp
  have q1 : Hid (A.length ≤ 4096) := Lib.hid k1
  clear EC RC hA k1 hf
  go_enter Try.func5, Try.ntmps5
  go_wp2_with fail
  refine (awake4_c _).mono ?_; rintro e w1 ⟨rfl, x0⟩
  replace h0 := x0.cell h0
  replace h1 := x0.cell h1
  replace h2 := x0.cell h2
  replace h3 := x0.cell h3
  have X := x0.box
  clear x0
  go_wp2_with fail
  refine (SC.out _).mono ?_; rintro e w2 ⟨rfl, x3⟩
  replace h0 := x3.cell h0
  replace h1 := x3.cell h1
  replace h2 := x3.cell h2
  replace h3 := x3.cell h3
  replace X := X.trans x3
  clear x3
  rw [F.out]
  have ha := HA.out.ext X
  go_wp2_with fail
  refine (HE.out _ ha).mono ?_; rintro e w4 ⟨v, rfl, o6, x5⟩
  obtain ⟨r1_a, r1_c, rfl, _, _, r1⟩ := o6.form
  replace h0 := x5.cell h0
  replace h1 := x5.cell h1
  replace h2 := x5.cell h2
  replace h3 := x5.cell h3
  replace ha := ha.ext x5
  replace X := X.trans x5
  clear x5 o6
  go_wp2_with fail
  refine (HR.out _ ha).mono ?_; rintro e w7 ⟨v, rfl, o9, x8⟩
  obtain ⟨r2_a, r2_c, rfl, _, _, r2⟩ := o9.form
  replace h0 := x8.cell h0
  replace h1 := x8.cell h1
  replace h2 := x8.cell h2
  replace h3 := x8.cell h3
  replace ha := ha.ext x8
  replace r1 := r1.ext x8
  replace X := X.trans x8
  clear x8 o9
  go_wp2_with fail
  refine (same4n A _ _ _ _ _ _ rfl r1 r2 (by have := q1.out; omega)).mono ?_; rintro e w10 ⟨rfl, x11⟩
  replace h0 := x11.cell h0
  replace h1 := x11.cell h1
  replace h2 := x11.cell h2
  replace h3 := x11.cell h3
  replace ha := ha.ext x11
  replace r1 := r1.ext x11
  replace r2 := r2.ext x11
  replace X := X.trans x11
  clear x11
  go_wp2_with fail
  go_ret
  exact ⟨rfl, X⟩
end Go.Proofs.Ytcnbinjoeilfgaa
