/- Contracts of package code: Valid, Points. -/
import Derived.Test.YtgnngifnoaagjaaTr6
import Derived.Test.YtgnngifnoaagjaaGN
import Derived.Test.YtgnngifnoaagjaaGS
namespace Go.Proofs.Ytgnngifnoaagjaa
open Go.RowKit

def cval (p : Nat) (n k : Int) : Bool := vld p && decide (1 ≤ n) && decide (n ≤ 256) && rootB p n && decide (n < (p : Int) - 1) && decide (1 ≤ k) && decide (k ≤ n)
theorem cval_iff (p : Nat) (n k : Int) : cval p n k = true ↔ vld p = true ∧ 1 ≤ n ∧ n ≤ 256 ∧ rootB p n = true ∧ n < (p : Int) - 1 ∧ 1 ≤ k ∧ k ≤ n := by
  simp only [cval, Bool.and_eq_true, decide_eq_true_eq]; constructor
  · rintro ⟨⟨⟨⟨⟨⟨a, b⟩, c⟩, d⟩, e⟩, f⟩, g⟩; exact ⟨a, b, c, d, e, f, g⟩
  · rintro ⟨a, b, c, d, e, f, g⟩; exact ⟨⟨⟨⟨⟨⟨a, b⟩, c⟩, d⟩, e⟩, f⟩, g⟩
theorem cval_no {p : Nat} {n k : Int} (h : ¬ (vld p = true ∧ 1 ≤ n ∧ n ≤ 256 ∧ rootB p n = true ∧ n < (p : Int) - 1 ∧ 1 ≤ k ∧ k ≤ n)) : cval p n k = false := by
  rw [← Bool.not_eq_true, cval_iff]; exact h
/-- What a valid code is. -/
theorem cval_spec {p : Nat} {n k : Int} (h : cval p n k = true) : vld p = true ∧ ∃ e K N : Nat, e ≤ 8 ∧ N = 2 ^ e ∧ n = (N : Int) ∧ k = (K : Int) ∧ 1 ≤ K ∧ K ≤ N ∧ N + 1 < p ∧ (p - 1) % N = 0 ∧ okT p n = true := by
  obtain ⟨h1, h2, h3, h4, h5, h6, h7⟩ := (cval_iff p n k).1 h
  obtain ⟨_, ⟨e, he, hn⟩, hd⟩ := rootB_spec h4
  refine ⟨h1, e, k.toNat, 2 ^ e, ?_, rfl, hn, by omega, by omega, by omega, by omega, ?_, ?_⟩
  · rcases Nat.lt_or_ge 8 e with h8 | h8
    · have := Nat.pow_le_pow_right (show 0 < 2 by omega) (show 9 ≤ e by omega)
      omega
    · exact h8
  · rw [hn, Int.toNat_natCast] at hd; exact hd
  · rw [okT_and, h4, decide_eq_true (by omega)]; rfl

set_option maxRecDepth 100000 in
set_option maxHeartbeats 2000000 in
theorem CValid_c (p : Nat) (n k : Int) (w : World) (hn : n ≤ 9223372036854775807) (hn2 : -9223372036854775808 ≤ n) :
    Calls Try.prog 17 #[.agg #[.int .u64 p, .int .i64 n, .int .i64 k]] w fun e w' => e = .returned (.bool (cval p n k)) ∧ Ext w w' := by
  have h0 : (w.alloc (.cells #[.int .u64 p, .int .i64 n, .int .i64 k] 31)).cell? ⟨w.heap.size, 0, none⟩ = some (.int .u64 p) := by simp
  have h1 : (w.alloc (.cells #[.int .u64 p, .int .i64 n, .int .i64 k] 31)).cell? ⟨w.heap.size, 1, none⟩ = some (.int .i64 n) := by simp
  have h2 : (w.alloc (.cells #[.int .u64 p, .int .i64 n, .int .i64 k] 31)).cell? ⟨w.heap.size, 2, none⟩ = some (.int .i64 k) := by simp
  have g0 := ((Ext.refl (w.alloc (.cells #[.int .u64 p, .int .i64 n, .int .i64 k] 31))).alloc (.cells #[.int .u64 p] 65)).cell h0
  have g1 := ((Ext.refl (w.alloc (.cells #[.int .u64 p, .int .i64 n, .int .i64 k] 31))).alloc (.cells #[.int .u64 p] 65)).cell h1
  have g2 := ((Ext.refl (w.alloc (.cells #[.int .u64 p, .int .i64 n, .int .i64 k] 31))).alloc (.cells #[.int .u64 p] 65)).cell h2
  cases hv : vld p
  case false =>
    have V := Lib.hid hv
    have E : Hid (cval p n k = false) := Lib.hid (cval_no (fun h => by rw [hv] at h; exact absurd h.1 (by decide)))
    clear hv
    go_enter Try.func17, Try.ntmps17
    go_wp2_with fail
    refine (Valid_c _ _).mono ?_; rintro e w1 ⟨rfl, x1⟩; rw [V.out]
    replace g0 := x1.cell g0
    replace g1 := x1.cell g1
    replace g2 := x1.cell g2
    have hc : w1.cell? ⟨w.heap.size + 1, 0, none⟩ = some (.int .u64 p) := by have h := x1.boxCell; simpa using h
    have X := x1.box.box
    clear x1
    go_wp2_with fail
    go_ret
    exact ⟨by rw [E.out]; rfl, X⟩
  have V := Lib.hid hv
  have hb := vld_bd hv
  clear hv
  by_cases a1 : n < 1
  · have t1 : decide (n < 1) = true := decide_eq_true a1
    have E : Hid (cval p n k = false) := Lib.hid (cval_no (fun h => by omega))
    clear a1
    go_enter Try.func17, Try.ntmps17
    go_wp2_with fail
    refine (Valid_c _ _).mono ?_; rintro e w1 ⟨rfl, x1⟩; rw [V.out]
    replace g0 := x1.cell g0
    replace g1 := x1.cell g1
    replace g2 := x1.cell g2
    have hc : w1.cell? ⟨w.heap.size + 1, 0, none⟩ = some (.int .u64 p) := by have h := x1.boxCell; simpa using h
    have X := x1.box.box
    clear x1
    go_wp2_with fail
    go_ret
    exact ⟨by rw [E.out]; rfl, X⟩
  have t1 : decide (n < 1) = false := decide_eq_false a1
  by_cases a2 : 256 < n
  · have t2 : decide (256 < n) = true := decide_eq_true a2
    have E : Hid (cval p n k = false) := Lib.hid (cval_no (fun h => by omega))
    clear a1 a2
    go_enter Try.func17, Try.ntmps17
    go_wp2_with fail
    refine (Valid_c _ _).mono ?_; rintro e w1 ⟨rfl, x1⟩; rw [V.out]
    replace g0 := x1.cell g0
    replace g1 := x1.cell g1
    replace g2 := x1.cell g2
    have hc : w1.cell? ⟨w.heap.size + 1, 0, none⟩ = some (.int .u64 p) := by have h := x1.boxCell; simpa using h
    have X := x1.box.box
    clear x1
    go_wp2_with fail
    go_ret
    exact ⟨by rw [E.out]; rfl, X⟩
  have t2 : decide (256 < n) = false := decide_eq_false a2
  have RC := Lib.hid (fun w' => Root_c p n w' hn hn2)
  cases hB : rootB p n
  case false =>
    have B := Lib.hid hB
    have E : Hid (cval p n k = false) := Lib.hid (cval_no (fun h => by rw [hB] at h; exact absurd h.2.2.2.1 (by decide)))
    clear hB a1 a2
    go_enter Try.func17, Try.ntmps17
    go_wp2_with fail
    refine (Valid_c _ _).mono ?_; rintro e w1 ⟨rfl, x1⟩; rw [V.out]
    replace g0 := x1.cell g0
    replace g1 := x1.cell g1
    replace g2 := x1.cell g2
    have hc : w1.cell? ⟨w.heap.size + 1, 0, none⟩ = some (.int .u64 p) := by have h := x1.boxCell; simpa using h
    have X := x1.box.box
    clear x1
    go_wp2_with fail
    refine (RC.out _).mono ?_; rintro e w2 ⟨rfl, x2⟩; rw [rootV_no B.out, B.out]
    replace g0 := x2.cell g0
    replace g1 := x2.cell g1
    replace g2 := x2.cell g2
    replace X := X.trans x2
    clear x2 hc
    go_wp2_with fail
    go_ret
    exact ⟨by rw [E.out]; rfl, X⟩
  have B := Lib.hid hB
  obtain ⟨N, rfl⟩ : ∃ N : Nat, n = (N : Int) := ⟨n.toNat, by omega⟩
  obtain ⟨q, hq⟩ : ∃ q, q = p - 1 := ⟨_, rfl⟩
  have e1 : (p : Int) - 1 = (q : Int) := by omega
  have HQ := Lib.hid hq
  clear hq
  by_cases a3 : (N : Int) < (p : Int) - 1
  case neg =>
    have a6 : q ≤ N := by have := HQ.out; omega
    have E : Hid (cval p N k = false) := Lib.hid (cval_no (fun h => a3 h.2.2.2.2.1))
    clear hB a3
    go_enter Try.func17, Try.ntmps17
    go_wp2_with fail
    refine (Valid_c _ _).mono ?_; rintro e w1 ⟨rfl, x1⟩; rw [V.out]
    replace g0 := x1.cell g0
    replace g1 := x1.cell g1
    replace g2 := x1.cell g2
    have hc : w1.cell? ⟨w.heap.size + 1, 0, none⟩ = some (.int .u64 p) := by have h := x1.boxCell; simpa using h
    have X := x1.box.box
    clear x1
    go_wp2_with fail
    refine (RC.out _).mono ?_; rintro e w2 ⟨rfl, x2⟩; rw [B.out]
    replace g0 := x2.cell g0
    replace g1 := x2.cell g1
    replace g2 := x2.cell g2
    replace X := X.trans x2
    clear x2 hc
    go_wp2_with fail
    go_ret
    exact ⟨by rw [E.out]; rfl, X⟩
  have a6 : N < q := by have := HQ.out; omega
  by_cases a4 : 1 ≤ k
  case neg =>
    have t4 : decide (1 ≤ k) = false := decide_eq_false a4
    have E : Hid (cval p N k = false) := Lib.hid (cval_no (fun h => a4 h.2.2.2.2.2.1))
    clear hB a3 a4
    go_enter Try.func17, Try.ntmps17
    go_wp2_with fail
    refine (Valid_c _ _).mono ?_; rintro e w1 ⟨rfl, x1⟩; rw [V.out]
    replace g0 := x1.cell g0
    replace g1 := x1.cell g1
    replace g2 := x1.cell g2
    have hc : w1.cell? ⟨w.heap.size + 1, 0, none⟩ = some (.int .u64 p) := by have h := x1.boxCell; simpa using h
    have X := x1.box.box
    clear x1
    go_wp2_with fail
    refine (RC.out _).mono ?_; rintro e w2 ⟨rfl, x2⟩; rw [B.out]
    replace g0 := x2.cell g0
    replace g1 := x2.cell g1
    replace g2 := x2.cell g2
    replace X := X.trans x2
    clear x2 hc
    go_wp2_with fail
    go_ret
    exact ⟨by rw [E.out]; rfl, X⟩
  have t4 : decide (1 ≤ k) = true := decide_eq_true a4
  by_cases a5 : k ≤ (N : Int)
  case neg =>
    have t5 : decide (k ≤ (N : Int)) = false := decide_eq_false a5
    have E : Hid (cval p N k = false) := Lib.hid (cval_no (fun h => a5 h.2.2.2.2.2.2))
    clear hB a3 a4 a5
    go_enter Try.func17, Try.ntmps17
    go_wp2_with fail
    refine (Valid_c _ _).mono ?_; rintro e w1 ⟨rfl, x1⟩; rw [V.out]
    replace g0 := x1.cell g0
    replace g1 := x1.cell g1
    replace g2 := x1.cell g2
    have hc : w1.cell? ⟨w.heap.size + 1, 0, none⟩ = some (.int .u64 p) := by have h := x1.boxCell; simpa using h
    have X := x1.box.box
    clear x1
    go_wp2_with fail
    refine (RC.out _).mono ?_; rintro e w2 ⟨rfl, x2⟩; rw [B.out]
    replace g0 := x2.cell g0
    replace g1 := x2.cell g1
    replace g2 := x2.cell g2
    replace X := X.trans x2
    clear x2 hc
    go_wp2_with fail
    go_ret
    exact ⟨by rw [E.out]; rfl, X⟩
  have t5 : decide (k ≤ (N : Int)) = true := decide_eq_true a5
  have E : Hid (cval p N k = true) := Lib.hid ((cval_iff _ _ _).2 ⟨V.out, by omega, by omega, hB, a3, a4, a5⟩)
  clear hB a3 a4 a5
  go_enter Try.func17, Try.ntmps17
  go_wp2_with fail
  refine (Valid_c _ _).mono ?_; rintro e w1 ⟨rfl, x1⟩; rw [V.out]
  replace g0 := x1.cell g0
  replace g1 := x1.cell g1
  replace g2 := x1.cell g2
  have hc : w1.cell? ⟨w.heap.size + 1, 0, none⟩ = some (.int .u64 p) := by have h := x1.boxCell; simpa using h
  have X := x1.box.box
  clear x1
  go_wp2_with fail
  refine (RC.out _).mono ?_; rintro e w2 ⟨rfl, x2⟩; rw [B.out]
  replace g0 := x2.cell g0
  replace g1 := x2.cell g1
  replace g2 := x2.cell g2
  replace X := X.trans x2
  clear x2 hc
  go_wp2_with fail
  go_ret
  exact ⟨by rw [E.out]; rfl, X⟩

set_option maxRecDepth 100000 in
set_option maxHeartbeats 2000000 in
theorem RCValid_c (p : Nat) (n k : Int) (w : World) (hn : n ≤ 9223372036854775807) (hn2 : -9223372036854775808 ≤ n) :
    Calls Try.prog 18 #[.agg #[.int .u64 p, .int .i64 n, .int .i64 k]] w fun e w' => e = .returned (.bool (cval p n k)) ∧ Ext w w' := by
  have h0 : (w.alloc (.cells #[.int .u64 p, .int .i64 n, .int .i64 k] 24)).cell? ⟨w.heap.size, 0, none⟩ = some (.int .u64 p) := by simp
  have h1 : (w.alloc (.cells #[.int .u64 p, .int .i64 n, .int .i64 k] 24)).cell? ⟨w.heap.size, 1, none⟩ = some (.int .i64 n) := by simp
  have h2 : (w.alloc (.cells #[.int .u64 p, .int .i64 n, .int .i64 k] 24)).cell? ⟨w.heap.size, 2, none⟩ = some (.int .i64 k) := by simp
  cases hv : vld p
  case false =>
    have V := Lib.hid hv
    have E : Hid (cval p n k = false) := Lib.hid (cval_no (fun h => by rw [hv] at h; exact absurd h.1 (by decide)))
    clear hv
    go_enter Try.func18, Try.ntmps18
    go_wp2_with fail
    refine (RValid_c _ _).mono ?_; rintro e w1 ⟨rfl, x1⟩; rw [V.out]
    replace h0 := x1.cell h0
    replace h1 := x1.cell h1
    replace h2 := x1.cell h2
    have X := x1.box
    clear x1
    go_wp2_with fail
    go_ret
    exact ⟨by rw [E.out]; rfl, X⟩
  have V := Lib.hid hv
  have hb := vld_bd hv
  clear hv
  by_cases a1 : n < 1
  · have t1 : decide (n < 1) = true := decide_eq_true a1
    have E : Hid (cval p n k = false) := Lib.hid (cval_no (fun h => by omega))
    clear a1
    go_enter Try.func18, Try.ntmps18
    go_wp2_with fail
    refine (RValid_c _ _).mono ?_; rintro e w1 ⟨rfl, x1⟩; rw [V.out]
    replace h0 := x1.cell h0
    replace h1 := x1.cell h1
    replace h2 := x1.cell h2
    have X := x1.box
    clear x1
    go_wp2_with fail
    go_ret
    exact ⟨by rw [E.out]; rfl, X⟩
  have t1 : decide (n < 1) = false := decide_eq_false a1
  by_cases a2 : 256 < n
  · have t2 : decide (256 < n) = true := decide_eq_true a2
    have E : Hid (cval p n k = false) := Lib.hid (cval_no (fun h => by omega))
    clear a1 a2
    go_enter Try.func18, Try.ntmps18
    go_wp2_with fail
    refine (RValid_c _ _).mono ?_; rintro e w1 ⟨rfl, x1⟩; rw [V.out]
    replace h0 := x1.cell h0
    replace h1 := x1.cell h1
    replace h2 := x1.cell h2
    have X := x1.box
    clear x1
    go_wp2_with fail
    go_ret
    exact ⟨by rw [E.out]; rfl, X⟩
  have t2 : decide (256 < n) = false := decide_eq_false a2
  obtain ⟨N, rfl⟩ : ∃ N : Nat, n = (N : Int) := ⟨n.toNat, by omega⟩
  obtain ⟨q, hq⟩ : ∃ q, q = p - 1 := ⟨_, rfl⟩
  have e1 : (p : Int) - 1 = (q : Int) := by omega
  have HQ := Lib.hid hq
  clear hq
  by_cases a4 : 1 ≤ k
  case neg =>
    have t4 : decide (k < 1) = true := decide_eq_true (by omega)
    have E : Hid (cval p N k = false) := Lib.hid (cval_no (fun h => a4 h.2.2.2.2.2.1))
    clear a4
    go_enter Try.func18, Try.ntmps18
    go_wp2_with fail
    refine (RValid_c _ _).mono ?_; rintro e w1 ⟨rfl, x1⟩; rw [V.out]
    replace h0 := x1.cell h0
    replace h1 := x1.cell h1
    replace h2 := x1.cell h2
    have X := x1.box
    clear x1
    go_wp2_with fail
    go_ret
    exact ⟨by rw [E.out]; rfl, X⟩
  have t4 : decide (k < 1) = false := decide_eq_false (by omega)
  by_cases a5 : k ≤ (N : Int)
  case neg =>
    have t5 : decide ((N : Int) < k) = true := decide_eq_true (by omega)
    have E : Hid (cval p N k = false) := Lib.hid (cval_no (fun h => a5 h.2.2.2.2.2.2))
    clear a4 a5
    go_enter Try.func18, Try.ntmps18
    go_wp2_with fail
    refine (RValid_c _ _).mono ?_; rintro e w1 ⟨rfl, x1⟩; rw [V.out]
    replace h0 := x1.cell h0
    replace h1 := x1.cell h1
    replace h2 := x1.cell h2
    have X := x1.box
    clear x1
    go_wp2_with fail
    go_ret
    exact ⟨by rw [E.out]; rfl, X⟩
  have t5 : decide ((N : Int) < k) = false := decide_eq_false (by omega)
  by_cases a3 : (N : Int) < (p : Int) - 1
  case neg =>
    have a6 : q ≤ N := by have := HQ.out; omega
    have E : Hid (cval p N k = false) := Lib.hid (cval_no (fun h => a3 h.2.2.2.2.1))
    clear a3 a4 a5
    go_enter Try.func18, Try.ntmps18
    go_wp2_with fail
    refine (RValid_c _ _).mono ?_; rintro e w1 ⟨rfl, x1⟩; rw [V.out]
    replace h0 := x1.cell h0
    replace h1 := x1.cell h1
    replace h2 := x1.cell h2
    have X := x1.box
    clear x1
    go_wp2_with fail
    go_ret
    exact ⟨by rw [E.out]; rfl, X⟩
  have a6 : N < q := by have := HQ.out; omega
  have RC := Lib.hid (fun w' => RRoot_c p N w' hn hn2)
  cases hB : rootB p N
  case false =>
    have B := Lib.hid hB
    have E : Hid (cval p N k = false) := Lib.hid (cval_no (fun h => by rw [hB] at h; exact absurd h.2.2.2.1 (by decide)))
    clear hB a3 a4 a5
    go_enter Try.func18, Try.ntmps18
    go_wp2_with fail
    refine (RValid_c _ _).mono ?_; rintro e w1 ⟨rfl, x1⟩; rw [V.out]
    replace h0 := x1.cell h0
    replace h1 := x1.cell h1
    replace h2 := x1.cell h2
    have X := x1.box
    clear x1
    go_wp2_with fail
    refine (RC.out _).mono ?_; rintro e w2 ⟨rfl, x2⟩; rw [rootV_no B.out, B.out]
    replace X := X.trans x2
    clear x2
    go_wp2_with fail
    go_ret
    exact ⟨by rw [E.out]; rfl, X⟩
  have B := Lib.hid hB
  have E : Hid (cval p N k = true) := Lib.hid ((cval_iff _ _ _).2 ⟨V.out, by omega, by omega, hB, a3, a4, a5⟩)
  clear hB a3 a4 a5
  go_enter Try.func18, Try.ntmps18
  go_wp2_with fail
  refine (RValid_c _ _).mono ?_; rintro e w1 ⟨rfl, x1⟩; rw [V.out]
  replace h0 := x1.cell h0
  replace h1 := x1.cell h1
  replace h2 := x1.cell h2
  have X := x1.box
  clear x1
  go_wp2_with fail
  refine (RC.out _).mono ?_; rintro e w2 ⟨rfl, x2⟩; rw [B.out]
  replace X := X.trans x2
  clear x2
  go_wp2_with fail
  go_ret
  exact ⟨by rw [E.out]; rfl, X⟩
end Go.Proofs.Ytgnngifnoaagjaa
