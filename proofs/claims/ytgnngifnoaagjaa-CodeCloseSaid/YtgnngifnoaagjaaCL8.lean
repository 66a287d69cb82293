/- Walk of CodeClose. -/
import Derived.Test.YtgnngifnoaagjaaCL7
import Derived.Test.YtgnngifnoaagjaaCd15
namespace Go.Proofs.Ytgnngifnoaagjaa
open Go.RowKit
def tinyB (p : Nat) (n : Int) (K : Nat) : Bool := decide (n ≤ 16) && decide (manyM p K * min p 20001 ≤ 20000)
set_option maxRecDepth 100000 in
set_option maxHeartbeats 4000000 in
theorem tiny_c (p : Nat) (n : Int) (K : Nat) (w : World) (hK : K ≤ 256) :
    Calls Try.prog 34 #[.agg #[.int .u64 p, .int .i64 n, .int .i64 (K : Int)]] w fun e w' => e = .returned (.bool (tinyB p n K)) ∧ Ext w w' := by
  have h0 : (w.alloc (.cells #[.int .u64 p, .int .i64 n, .int .i64 (K : Int)] 24)).cell? ⟨w.heap.size, 0, none⟩ = some (.int .u64 p) := by simp
  have h1 : (w.alloc (.cells #[.int .u64 p, .int .i64 n, .int .i64 (K : Int)] 24)).cell? ⟨w.heap.size, 1, none⟩ = some (.int .i64 n) := by simp
  have h2 : (w.alloc (.cells #[.int .u64 p, .int .i64 n, .int .i64 (K : Int)] 24)).cell? ⟨w.heap.size, 2, none⟩ = some (.int .i64 (K : Int)) := by simp
  by_cases hn : n ≤ 16
  case neg =>
    have E : Hid (tinyB p n K = false) := Lib.hid (by unfold tinyB; rw [decide_eq_false hn]; rfl)
    go_enter Try.func34, Try.ntmps34
    go_wp2_with fail
    refine region_factsL [[], [(0, 3)], [(1, 4)], [(2, 5)], [(3, 6)], [(4, 7), (3, 6)], [(3, 6)], [(6, 9), (3, 6)], [(7, 10), (3, 6)], [(5, 8), (8, 11), (3, 6)], [(9, 12), (3, 6)], [(3, 6), (10, 13)], [(11, 14)]] [some 3, some 4, some 5, some 6, some 7, some 8, some 9, some 10, some 11, some 12, some 13, some 14, some 2] [false, true, false, false, false, false, false, false, false, false, false, false, false, false, false] (by kernel_rfl) (by kernel_rfl) (by kernel_rfl) ?_
    dsimp only [maskL]
    with_reducible apply FromM.eq
    · intro w' hx; (try dsimp only [List.nil_append, List.cons_append, DepsL, DepsL1, setO, setN, favs, opsOf]); go_wp2; exact OpPostE.some _ rfl rfl (Ext.refl _) rfl
    with_reducible apply FromM.eq
    · intro w' hx; have h0x := hx.cell h0; have h1x := hx.cell h1; have h2x := hx.cell h2; (try dsimp only [List.nil_append, List.cons_append, DepsL, DepsL1, setO, setN, favs, opsOf]); go_wp2; exact OpPostE.some _ rfl rfl (Ext.refl _) rfl
    with_reducible apply FromM.eq
    · intro w' hx; (try dsimp only [List.nil_append, List.cons_append, DepsL, DepsL1, setO, setN, favs, opsOf]); go_wp2; exact OpPostE.some _ rfl rfl (Ext.refl _) rfl
    with_reducible apply FromM.eq
    · intro w' hx; (try dsimp only [List.nil_append, List.cons_append, DepsL, DepsL1, setO, setN, favs, opsOf]); go_wp2; exact OpPostE.some _ rfl rfl (Ext.refl _) rfl
    with_reducible apply FromM.eq
    · intro w' hx; have h0x := hx.cell h0; have h1x := hx.cell h1; have h2x := hx.cell h2; (try dsimp only [List.nil_append, List.cons_append, DepsL, DepsL1, setO, setN, favs, opsOf]); go_wp2; exact OpPostE.some _ rfl rfl (Ext.refl _) rfl
    -- 5: t8
    with_reducible apply FromM.eq
    · intro w' hx; (try dsimp only [List.nil_append, List.cons_append, DepsL, DepsL1, setO, setN, favs, opsOf]); go_wp2; exact OpPostE.some _ rfl rfl (Ext.refl _) rfl
    with_reducible apply FromM.eq
    · intro w' hx; (try dsimp only [List.nil_append, List.cons_append, DepsL, DepsL1, setO, setN, favs, opsOf]); go_wp2; exact OpPostE.some _ rfl rfl (Ext.refl _) rfl
    with_reducible apply FromM.eq
    · intro w' hx; have h0x := hx.cell h0; have h1x := hx.cell h1; have h2x := hx.cell h2; (try dsimp only [List.nil_append, List.cons_append, DepsL, DepsL1, setO, setN, favs, opsOf]); go_wp2; exact OpPostE.some _ rfl rfl (Ext.refl _) rfl
    with_reducible apply FromM.eq
    · intro w' hx; have h0x := hx.cell h0; have h1x := hx.cell h1; have h2x := hx.cell h2; (try dsimp only [List.nil_append, List.cons_append, DepsL, DepsL1, setO, setN, favs, opsOf]); go_wp2; exact OpPostE.some _ rfl rfl (Ext.refl _) rfl
    with_reducible apply FromM.eq
    · intro w' hx; (try dsimp only [List.nil_append, List.cons_append, DepsL, DepsL1, setO, setN, favs, opsOf]); go_wp2; exact OpPostE.some _ rfl rfl (Ext.refl _) rfl
    with_reducible apply FromM.eq
    · intro w' hx; (try dsimp only [List.nil_append, List.cons_append, DepsL, DepsL1, setO, setN, favs, opsOf]); go_wp2; exact OpPostE.some _ rfl rfl (Ext.refl _) rfl
    with_reducible apply FromM.eq
    · intro w' hx; (try dsimp only [List.nil_append, List.cons_append, DepsL, DepsL1, setO, setN, favs, opsOf]); go_wp2; exact OpPostE.some _ rfl rfl (Ext.refl _) rfl
    with_reducible apply FromM.eq
    · intro w' hx; (try dsimp only [List.nil_append, List.cons_append, DepsL, DepsL1, setO, setN, favs, opsOf]); go_wp2; exact OpPostE.some _ rfl rfl (Ext.refl _) rfl
    with_reducible refine FromM.fin ?_
    intro w' hx
    (try dsimp only [List.nil_append, List.cons_append, EndL, DepsL1, setO, setN])
    have X := hx.box
    clear hx
    go_wp2_with fail
    go_ret
    rw [E.out]; exact ⟨rfl, X⟩
  have MC := Lib.hid (fun w' => Many_c p n K w' hK)
  have hmm := manyM_le p K
  have E : Hid (tinyB p n K = decide (manyM p K * min p 20001 ≤ 20000)) := Lib.hid (by unfold tinyB; rw [decide_eq_true hn]; rfl)
  obtain ⟨M, hM⟩ : ∃ M, M = manyM p K := ⟨_, rfl⟩
  rw [← hM] at MC hmm E
  clear hM
  obtain ⟨q, hq⟩ : ∃ q, q = min p 20001 := ⟨_, rfl⟩
  have hq2 : q ≤ 20001 := by rw [hq]; exact Nat.min_le_right _ _
  have hMq : M * q ≤ 400020001 * 20001 := Nat.mul_le_mul hmm hq2
  rw [← hq] at E
  obtain ⟨z, hz⟩ : ∃ z, z = M * q := ⟨_, rfl⟩
  rw [← hz] at E hMq
  have HZ : Hid ((M : Int) * (q : Int) = (z : Int)) := Lib.hid (by rw [hz, Int.natCast_mul])
  have HP : Hid ((p ≤ 20001 ∧ q = p) ∨ (¬ p ≤ 20001 ∧ q = 20001)) := Lib.hid (by
    rcases Nat.lt_or_ge 20001 p with h | h
    · exact .inr ⟨by omega, by rw [hq, Nat.min_eq_right (by omega)]⟩
    · exact .inl ⟨h, by rw [hq, Nat.min_eq_left h]⟩)
  clear hq hz
  by_cases hzz : z ≤ 20000
  · have t1 : decide ((z : Int) ≤ 20000) = true := decide_eq_true (by omega)
    have E2 : Hid (decide (z ≤ 20000) = true) := Lib.hid (decide_eq_true hzz)
    go_enter Try.func34, Try.ntmps34
    go_wp2_with fail
    refine region_factsL [[], [(0, 3)], [(1, 4)], [(2, 5)], [(3, 6)], [(4, 7), (3, 6)], [(3, 6)], [(6, 9), (3, 6)], [(7, 10), (3, 6)], [(5, 8), (8, 11), (3, 6)], [(9, 12), (3, 6)], [(3, 6), (10, 13)], [(11, 14)]] [some 3, some 4, some 5, some 6, some 7, some 8, some 9, some 10, some 11, some 12, some 13, some 14, some 2] [false, true, false, false, false, false, false, false, false, false, false, false, false, false, false] (by kernel_rfl) (by kernel_rfl) (by kernel_rfl) ?_
    dsimp only [maskL]
    with_reducible apply FromM.eq
    · intro w' hx; (try dsimp only [List.nil_append, List.cons_append, DepsL, DepsL1, setO, setN, favs, opsOf]); go_wp2; exact OpPostE.some _ rfl rfl (Ext.refl _) rfl
    with_reducible apply FromM.eq
    · intro w' hx; have h0x := hx.cell h0; have h1x := hx.cell h1; have h2x := hx.cell h2; (try dsimp only [List.nil_append, List.cons_append, DepsL, DepsL1, setO, setN, favs, opsOf]); go_wp2; exact OpPostE.some _ rfl rfl (Ext.refl _) rfl
    with_reducible apply FromM.eq
    · intro w' hx; (try dsimp only [List.nil_append, List.cons_append, DepsL, DepsL1, setO, setN, favs, opsOf]); go_wp2; exact OpPostE.some _ rfl rfl (Ext.refl _) rfl
    with_reducible apply FromM.eq
    · intro w' hx; (try dsimp only [List.nil_append, List.cons_append, DepsL, DepsL1, setO, setN, favs, opsOf]); go_wp2; exact OpPostE.some _ rfl rfl (Ext.refl _) rfl
    with_reducible apply FromM.eq
    · intro w' hx; have h0x := hx.cell h0; have h1x := hx.cell h1; have h2x := hx.cell h2; (try dsimp only [List.nil_append, List.cons_append, DepsL, DepsL1, setO, setN, favs, opsOf]); go_wp2; exact OpPostE.some _ rfl rfl (Ext.refl _) rfl
    with_reducible apply FromM.eq
    · intro w' hx; (try dsimp only [List.nil_append, List.cons_append, DepsL, DepsL1, setO, setN, favs, opsOf]); go_wp2_with (go_at_call 26; refine (MC.out _).mono ?_; rintro e w2 ⟨rfl, hb2⟩); exact OpPostE.some _ rfl rfl hb2 rfl
    with_reducible apply FromM.eq
    · intro w' hx; (try dsimp only [List.nil_append, List.cons_append, DepsL, DepsL1, setO, setN, favs, opsOf]); go_wp2; exact OpPostE.some _ rfl rfl (Ext.refl _) rfl
    with_reducible apply FromM.eq
    · intro w' hx; have h0x := hx.cell h0; have h1x := hx.cell h1; have h2x := hx.cell h2; (try dsimp only [List.nil_append, List.cons_append, DepsL, DepsL1, setO, setN, favs, opsOf]); go_wp2; exact OpPostE.some _ rfl rfl (Ext.refl _) rfl
    -- 8: t11
    with_reducible refine FromM.eq (.int .u64 (q : Int)) ?_ ?_
    · intro w' hx; have h0x := hx.cell h0; have h1x := hx.cell h1; have h2x := hx.cell h2; (try dsimp only [List.nil_append, List.cons_append, DepsL, DepsL1, setO, setN, favs, opsOf])
      rcases HP.out with ⟨hp1, hp2⟩ | ⟨hp1, hp2⟩
      · have HP2 := Lib.hid hp2; clear hp2; go_wp2; exact OpPostE.some _ rfl rfl (Ext.refl _) (by rw [HP2.out]; rfl)
      · have HP2 := Lib.hid hp2; clear hp2; go_wp2; exact OpPostE.some _ rfl rfl (Ext.refl _) (by rw [HP2.out]; rfl)
    -- 9: t12
    with_reducible refine FromM.eq (.int .u64 (z : Int)) ?_ ?_
    · intro w' hx; (try dsimp only [List.nil_append, List.cons_append, DepsL, DepsL1, setO, setN, favs, opsOf])
      have b1 : (M : Int) * (q : Int) ≤ 8000800040001 + 400020001 * 20001 := by rw [HZ.out]; omega
      have b2 : 0 ≤ (M : Int) * (q : Int) := by rw [HZ.out]; omega
      go_wp2; exact OpPostE.some _ rfl rfl (Ext.refl _) (by rw [← HZ.out]; rfl)
    with_reducible apply FromM.eq
    · intro w' hx; (try dsimp only [List.nil_append, List.cons_append, DepsL, DepsL1, setO, setN, favs, opsOf]); go_wp2; exact OpPostE.some _ rfl rfl (Ext.refl _) rfl
    with_reducible apply FromM.eq
    · intro w' hx; (try dsimp only [List.nil_append, List.cons_append, DepsL, DepsL1, setO, setN, favs, opsOf]); go_wp2; exact OpPostE.some _ rfl rfl (Ext.refl _) rfl
    with_reducible apply FromM.eq
    · intro w' hx; (try dsimp only [List.nil_append, List.cons_append, DepsL, DepsL1, setO, setN, favs, opsOf]); go_wp2; exact OpPostE.some _ rfl rfl (Ext.refl _) rfl
    with_reducible refine FromM.fin ?_
    intro w' hx
    (try dsimp only [List.nil_append, List.cons_append, EndL, DepsL1, setO, setN])
    have X := hx.box
    clear hx
    go_wp2_with fail
    go_ret
    rw [E.out, E2.out]; exact ⟨rfl, X⟩
  · have t1 : decide ((z : Int) ≤ 20000) = false := decide_eq_false (by omega)
    have E2 : Hid (decide (z ≤ 20000) = false) := Lib.hid (decide_eq_false hzz)
    go_enter Try.func34, Try.ntmps34
    go_wp2_with fail
    refine region_factsL [[], [(0, 3)], [(1, 4)], [(2, 5)], [(3, 6)], [(4, 7), (3, 6)], [(3, 6)], [(6, 9), (3, 6)], [(7, 10), (3, 6)], [(5, 8), (8, 11), (3, 6)], [(9, 12), (3, 6)], [(3, 6), (10, 13)], [(11, 14)]] [some 3, some 4, some 5, some 6, some 7, some 8, some 9, some 10, some 11, some 12, some 13, some 14, some 2] [false, true, false, false, false, false, false, false, false, false, false, false, false, false, false] (by kernel_rfl) (by kernel_rfl) (by kernel_rfl) ?_
    dsimp only [maskL]
    with_reducible apply FromM.eq
    · intro w' hx; (try dsimp only [List.nil_append, List.cons_append, DepsL, DepsL1, setO, setN, favs, opsOf]); go_wp2; exact OpPostE.some _ rfl rfl (Ext.refl _) rfl
    with_reducible apply FromM.eq
    · intro w' hx; have h0x := hx.cell h0; have h1x := hx.cell h1; have h2x := hx.cell h2; (try dsimp only [List.nil_append, List.cons_append, DepsL, DepsL1, setO, setN, favs, opsOf]); go_wp2; exact OpPostE.some _ rfl rfl (Ext.refl _) rfl
    with_reducible apply FromM.eq
    · intro w' hx; (try dsimp only [List.nil_append, List.cons_append, DepsL, DepsL1, setO, setN, favs, opsOf]); go_wp2; exact OpPostE.some _ rfl rfl (Ext.refl _) rfl
    with_reducible apply FromM.eq
    · intro w' hx; (try dsimp only [List.nil_append, List.cons_append, DepsL, DepsL1, setO, setN, favs, opsOf]); go_wp2; exact OpPostE.some _ rfl rfl (Ext.refl _) rfl
    with_reducible apply FromM.eq
    · intro w' hx; have h0x := hx.cell h0; have h1x := hx.cell h1; have h2x := hx.cell h2; (try dsimp only [List.nil_append, List.cons_append, DepsL, DepsL1, setO, setN, favs, opsOf]); go_wp2; exact OpPostE.some _ rfl rfl (Ext.refl _) rfl
    with_reducible apply FromM.eq
    · intro w' hx; (try dsimp only [List.nil_append, List.cons_append, DepsL, DepsL1, setO, setN, favs, opsOf]); go_wp2_with (go_at_call 26; refine (MC.out _).mono ?_; rintro e w2 ⟨rfl, hb2⟩); exact OpPostE.some _ rfl rfl hb2 rfl
    with_reducible apply FromM.eq
    · intro w' hx; (try dsimp only [List.nil_append, List.cons_append, DepsL, DepsL1, setO, setN, favs, opsOf]); go_wp2; exact OpPostE.some _ rfl rfl (Ext.refl _) rfl
    with_reducible apply FromM.eq
    · intro w' hx; have h0x := hx.cell h0; have h1x := hx.cell h1; have h2x := hx.cell h2; (try dsimp only [List.nil_append, List.cons_append, DepsL, DepsL1, setO, setN, favs, opsOf]); go_wp2; exact OpPostE.some _ rfl rfl (Ext.refl _) rfl
    -- 8: t11
    with_reducible refine FromM.eq (.int .u64 (q : Int)) ?_ ?_
    · intro w' hx; have h0x := hx.cell h0; have h1x := hx.cell h1; have h2x := hx.cell h2; (try dsimp only [List.nil_append, List.cons_append, DepsL, DepsL1, setO, setN, favs, opsOf])
      rcases HP.out with ⟨hp1, hp2⟩ | ⟨hp1, hp2⟩
      · have HP2 := Lib.hid hp2; clear hp2; go_wp2; exact OpPostE.some _ rfl rfl (Ext.refl _) (by rw [HP2.out]; rfl)
      · have HP2 := Lib.hid hp2; clear hp2; go_wp2; exact OpPostE.some _ rfl rfl (Ext.refl _) (by rw [HP2.out]; rfl)
    -- 9: t12
    with_reducible refine FromM.eq (.int .u64 (z : Int)) ?_ ?_
    · intro w' hx; (try dsimp only [List.nil_append, List.cons_append, DepsL, DepsL1, setO, setN, favs, opsOf])
      have b1 : (M : Int) * (q : Int) ≤ 8000800040001 + 400020001 * 20001 := by rw [HZ.out]; omega
      have b2 : 0 ≤ (M : Int) * (q : Int) := by rw [HZ.out]; omega
      go_wp2; exact OpPostE.some _ rfl rfl (Ext.refl _) (by rw [← HZ.out]; rfl)
    with_reducible apply FromM.eq
    · intro w' hx; (try dsimp only [List.nil_append, List.cons_append, DepsL, DepsL1, setO, setN, favs, opsOf]); go_wp2; exact OpPostE.some _ rfl rfl (Ext.refl _) rfl
    with_reducible apply FromM.eq
    · intro w' hx; (try dsimp only [List.nil_append, List.cons_append, DepsL, DepsL1, setO, setN, favs, opsOf]); go_wp2; exact OpPostE.some _ rfl rfl (Ext.refl _) rfl
    with_reducible apply FromM.eq
    · intro w' hx; (try dsimp only [List.nil_append, List.cons_append, DepsL, DepsL1, setO, setN, favs, opsOf]); go_wp2; exact OpPostE.some _ rfl rfl (Ext.refl _) rfl
    with_reducible refine FromM.fin ?_
    intro w' hx
    (try dsimp only [List.nil_append, List.cons_append, EndL, DepsL1, setO, setN])
    have X := hx.box
    clear hx
    go_wp2_with fail
    go_ret
    rw [E.out, E2.out]; exact ⟨rfl, X⟩

set_option maxRecDepth 100000 in
set_option maxHeartbeats 8000000 in
theorem CodeClose_w (p : Nat) (n k e : Int) (l m : List Nat) (a b : Option Addr) (c f : Nat) (w : World) (ha : Rd w a l) (hb : Rd w b m) (hn : n ≤ 9223372036854775807) (hn2 : -9223372036854775808 ≤ n) (he : e ≤ 9223372036854775807) (he2 : -9223372036854775808 ≤ e) (hl : l.length ≤ 9223372036854775807) (hm : m.length ≤ 9223372036854775807) :
    Calls Try.prog 10 #[.agg #[.int .u64 p, .int .i64 n, .int .i64 k, .slice a l.length c, .slice b m.length f, .int .i64 e]] w fun e w' => e = .returned (.bool true) ∧ Ext w w' := by
  have HA := Lib.hid ha
  have HB := Lib.hid hb
  clear ha hb
  have h0 : (w.alloc (.cells #[.int .u64 p, .int .i64 n, .int .i64 k, .slice a l.length c, .slice b m.length f, .int .i64 e] 45)).cell? ⟨w.heap.size, 0, none⟩ = some (.int .u64 p) := by simp
  have h1 : (w.alloc (.cells #[.int .u64 p, .int .i64 n, .int .i64 k, .slice a l.length c, .slice b m.length f, .int .i64 e] 45)).cell? ⟨w.heap.size, 1, none⟩ = some (.int .i64 n) := by simp
  have h2 : (w.alloc (.cells #[.int .u64 p, .int .i64 n, .int .i64 k, .slice a l.length c, .slice b m.length f, .int .i64 e] 45)).cell? ⟨w.heap.size, 2, none⟩ = some (.int .i64 k) := by simp
  have h3 : (w.alloc (.cells #[.int .u64 p, .int .i64 n, .int .i64 k, .slice a l.length c, .slice b m.length f, .int .i64 e] 45)).cell? ⟨w.heap.size, 3, none⟩ = some (.slice a l.length c) := by simp
  have h4 : (w.alloc (.cells #[.int .u64 p, .int .i64 n, .int .i64 k, .slice a l.length c, .slice b m.length f, .int .i64 e] 45)).cell? ⟨w.heap.size, 4, none⟩ = some (.slice b m.length f) := by simp
  have h5 : (w.alloc (.cells #[.int .u64 p, .int .i64 n, .int .i64 k, .slice a l.length c, .slice b m.length f, .int .i64 e] 45)).cell? ⟨w.heap.size, 5, none⟩ = some (.int .i64 e) := by simp
  have RVC := fun w' => RCValid_c p n k w' hn hn2
  cases hs : shB p n k [(a, l.length, c), (b, m.length, f)]
  case false =>
    have SC := Lib.hid (short2 p n k a b l.length c m.length f false hs hn hn2)
    clear hs RVC
    go_enter Try.func10, Try.ntmps10
    go_wp2_with fail
    refine (awake6_c _).mono ?_; rintro e w1 ⟨rfl, x0⟩
    replace h0 := x0.cell h0
    replace h1 := x0.cell h1
    replace h2 := x0.cell h2
    replace h3 := x0.cell h3
    replace h4 := x0.cell h4
    replace h5 := x0.cell h5
    have X := x0.box
    clear x0
    have q3 : (w1.alloc (.cells #[.int .u64 p, .int .i64 n, .int .i64 k] 24)).cell? ⟨w.heap.size, 3, none⟩ = some (.slice a l.length c) := ((Ext.refl w1).alloc _).cell h3
    have q4 : (w1.alloc (.cells #[.int .u64 p, .int .i64 n, .int .i64 k] 24)).cell? ⟨w.heap.size, 4, none⟩ = some (.slice b m.length f) := ((Ext.refl w1).alloc _).cell h4
    go_wp2_with fail
    refine (SC.out _ _ (by simp) (by simp)).mono ?_; rintro e w3 ⟨rfl, x⟩
    have d0 : w3.cell? ⟨w1.heap.size, 0, none⟩ = some (.int .u64 p) := x.box.cell (by simp)
    have d1 : w3.cell? ⟨w1.heap.size, 1, none⟩ = some (.int .i64 n) := x.box.cell (by simp)
    have d2 : w3.cell? ⟨w1.heap.size, 2, none⟩ = some (.int .i64 k) := x.box.cell (by simp)
    replace h0 := x.box.box.cell h0
    replace h1 := x.box.box.cell h1
    replace h2 := x.box.box.cell h2
    replace h3 := x.box.box.cell h3
    replace h4 := x.box.box.cell h4
    replace h5 := x.box.box.cell h5
    replace X := X.trans x.box.box
    clear x q3 q4
    go_wp2_with fail
    go_ret
    exact ⟨rfl, X⟩
  have SC := Lib.hid (short2 p n k a b l.length c m.length f true hs hn hn2)
  have hlen := sh2_len hs
  have OCA := Lib.hid (fun w' (a : Option Addr) (c : Nat) (h : Rd w' a l) => own_c l a c w' h (by omega))
  have OCB := Lib.hid (fun w' (a : Option Addr) (c : Nat) (h : Rd w' a m) => own_c m a c w' h (by omega))
  have RV1 := fun w' => RValid_c p w'
  clear hs
  cases hv : vld p
  case false =>
    have hc : cval p n k = false := by
      cases hc : cval p n k
      · rfl
      · rw [((cval_iff p n k).1 hc).1] at hv; cases hv
    have en : cLine p n k l m e = ([], 7) := by unfold cLine; rw [if_pos hv]
    have ea : cApart p n k l m e = (0, 7) := by unfold cApart; rw [en, if_neg (by decide)]
    have CC : Hid (∀ w' (a b : Option Addr) (c d : Nat), Rd w' a l → Rd w' b m → Calls Try.prog 35 #[.agg #[.int .u64 p, .int .i64 n, .int .i64 k], .slice a l.length c, .slice b m.length d, .int .i64 e] w' fun e w'' => e = .returned (.tuple #[.int .i64 0, .int .i64 7]) ∧ Ext w' w'') := Lib.hid (fun w' a b c d h1 h2 => by have q := Close_c p n k l m e a b c d w' h1 h2 hn hn2; rw [en] at q; exact q)
    have CA : Hid (∀ w' (a b : Option Addr) (c d : Nat), Rd w' a l → Rd w' b m → Calls Try.prog 36 #[.agg #[.int .u64 p, .int .i64 n, .int .i64 k], .slice a l.length c, .slice b m.length d, .int .i64 e] w' fun e w'' => e = .returned (.tuple #[.int .i64 0, .int .i64 7]) ∧ Ext w' w'') := Lib.hid (fun w' a b c d h1 h2 => by have q := Apart_c p n k l m e a b c d w' h1 h2 hn hn2; rw [ea] at q; exact q)
    rw [hc] at RVC
    rw [hv] at RV1
    have HRVC := Lib.hid RVC
    have HRV := Lib.hid RV1
    clear RVC RV1 en ea hc hv
    go_enter Try.func10, Try.ntmps10
    go_wp2_with fail
    refine (awake6_c _).mono ?_; rintro e w1 ⟨rfl, x0⟩
    replace h0 := x0.cell h0
    replace h1 := x0.cell h1
    replace h2 := x0.cell h2
    replace h3 := x0.cell h3
    replace h4 := x0.cell h4
    replace h5 := x0.cell h5
    have X := x0.box
    clear x0
    have q3 : (w1.alloc (.cells #[.int .u64 p, .int .i64 n, .int .i64 k] 24)).cell? ⟨w.heap.size, 3, none⟩ = some (.slice a l.length c) := ((Ext.refl w1).alloc _).cell h3
    have q4 : (w1.alloc (.cells #[.int .u64 p, .int .i64 n, .int .i64 k] 24)).cell? ⟨w.heap.size, 4, none⟩ = some (.slice b m.length f) := ((Ext.refl w1).alloc _).cell h4
    go_wp2_with fail
    refine (SC.out _ _ (by simp) (by simp)).mono ?_; rintro e w3 ⟨rfl, x⟩
    have d0 : w3.cell? ⟨w1.heap.size, 0, none⟩ = some (.int .u64 p) := x.box.cell (by simp)
    have d1 : w3.cell? ⟨w1.heap.size, 1, none⟩ = some (.int .i64 n) := x.box.cell (by simp)
    have d2 : w3.cell? ⟨w1.heap.size, 2, none⟩ = some (.int .i64 k) := x.box.cell (by simp)
    replace h0 := x.box.box.cell h0
    replace h1 := x.box.box.cell h1
    replace h2 := x.box.box.cell h2
    replace h3 := x.box.box.cell h3
    replace h4 := x.box.box.cell h4
    replace h5 := x.box.box.cell h5
    replace X := X.trans x.box.box
    clear x q3 q4
    go_wp2_with fail
    refine (HRVC.out _).mono ?_; rintro e w4 ⟨rfl, x⟩
    replace h0 := x.cell h0
    replace h1 := x.cell h1
    replace h2 := x.cell h2
    replace h3 := x.cell h3
    replace h4 := x.cell h4
    replace h5 := x.cell h5
    replace d0 := x.cell d0
    replace d1 := x.cell d1
    replace d2 := x.cell d2
    replace X := X.trans x
    clear x
    go_wp2_with fail
    refine region_factsL [[], [(0, 35)], [], [(2, 37)], [(3, 38)], [], [(5, 40)], [(6, 41)], [], [(8, 43)], [(1, 36), (4, 39), (7, 42), (9, 44)], [(10, 45)], [(11, 34)], [(11, 34)], [(12, 46)], [(13, 47)]] [some 35, some 36, some 37, some 38, some 39, some 40, some 41, some 42, some 43, some 44, some 45, some 34, some 46, some 47, some 4, some 5] [false, true, false, true, false, false, false, false, false, false, false, false, false, false, false, false, false, false, false, false, false, false, false, false, false, false, false, false, false, false, false, false, false, false, false, false, false, false, false, false, false, false, false, false, false, false, false, false, false, false, false, false, false, false, false, false, false, false, false, false, false, false, false, false, false, false, false, false, false, false, false, false, false, false, false, false, false, false, false, false, false, false, false, false, false, false, false, false, false, false, false, false, false, false, false, false, false, false, false, false, false, false, false, false, false, false, false, false, false, false, false, false, false, false, false, false, false, false, false, false, false, false, false, false, false, false, false, false, false, false, false, false, false, false, false, false, false, false, false, false, false, false, false, false, false, false, false, false, false, false, false, false, false, false, false, false, false, false, false, false, false, false, false, false, false, false] (by kernel_rfl) (by kernel_rfl) (by kernel_rfl) ?_
    dsimp only [maskL]
    with_reducible apply FromM.eq
    · intro w' hx; have h0x := hx.cell h0; have h1x := hx.cell h1; have h2x := hx.cell h2; have h3x := hx.cell h3; have h4x := hx.cell h4; have h5x := hx.cell h5; have d0x := hx.cell d0; have d1x := hx.cell d1; have d2x := hx.cell d2; (try dsimp only [List.nil_append, List.cons_append, DepsL, DepsL1, setO, setN, favs, opsOf]); go_wp2; exact OpPostE.some _ rfl rfl (Ext.refl _) rfl
    with_reducible apply FromM.eq
    · intro w' hx; (try dsimp only [List.nil_append, List.cons_append, DepsL, DepsL1, setO, setN, favs, opsOf]); refine op_call 15 [.tmp 35] _ _ _ rfl rfl rfl rfl rfl rfl (fun _ _ => Try.call15 _ _) (of_c p n k _) (fun e w2 h_ => ?_); obtain ⟨rfl, hb2⟩ := h_; exact ⟨_, rfl, hb2, rfl⟩
    with_reducible apply FromM.eq
    · intro w' hx; (try dsimp only [List.nil_append, List.cons_append, DepsL, DepsL1, setO, setN, favs, opsOf]); go_wp2; exact OpPostE.some _ rfl rfl (Ext.refl _) rfl
    with_reducible apply FromM.eq
    · intro w' hx; have h0x := hx.cell h0; have h1x := hx.cell h1; have h2x := hx.cell h2; have h3x := hx.cell h3; have h4x := hx.cell h4; have h5x := hx.cell h5; have d0x := hx.cell d0; have d1x := hx.cell d1; have d2x := hx.cell d2; (try dsimp only [List.nil_append, List.cons_append, DepsL, DepsL1, setO, setN, favs, opsOf]); go_wp2; exact OpPostE.some _ rfl rfl (Ext.refl _) rfl
    refine FromM.step (OwnF w.heap.size l) (OwnF.mono) ?_ ?_
    · intro w' hx; (try dsimp only [List.nil_append, List.cons_append, DepsL, DepsL1, setO, setN, favs, opsOf]); skip;
      refine op_call 16 [.tmp 38] _ _ _ rfl rfl rfl rfl rfl rfl (fun _ _ => Try.call16 _ _) (OCA.out _ _ _ (HA.out.ext (X.trans hx))) (fun e w2 h_ => ?_); obtain ⟨v, rfl, ho, hn'⟩ := h_; exact ⟨_, rfl, hn', (ho.base (X.trans hx).size)⟩
    with_reducible apply FromM.eq
    · intro w' hx; (try dsimp only [List.nil_append, List.cons_append, DepsL, DepsL1, setO, setN, favs, opsOf]); go_wp2; exact OpPostE.some _ rfl rfl (Ext.refl _) rfl
    with_reducible apply FromM.eq
    · intro w' hx; have h0x := hx.cell h0; have h1x := hx.cell h1; have h2x := hx.cell h2; have h3x := hx.cell h3; have h4x := hx.cell h4; have h5x := hx.cell h5; have d0x := hx.cell d0; have d1x := hx.cell d1; have d2x := hx.cell d2; (try dsimp only [List.nil_append, List.cons_append, DepsL, DepsL1, setO, setN, favs, opsOf]); go_wp2; exact OpPostE.some _ rfl rfl (Ext.refl _) rfl
    refine FromM.step (OwnF w.heap.size m) (OwnF.mono) ?_ ?_
    · intro w' hx; (try dsimp only [List.nil_append, List.cons_append, DepsL, DepsL1, setO, setN, favs, opsOf]); skip;
      refine op_call 16 [.tmp 41] _ _ _ rfl rfl rfl rfl rfl rfl (fun _ _ => Try.call16 _ _) (OCB.out _ _ _ (HB.out.ext (X.trans hx))) (fun e w2 h_ => ?_); obtain ⟨v, rfl, ho, hn'⟩ := h_; exact ⟨_, rfl, hn', (ho.base (X.trans hx).size)⟩
    with_reducible apply FromM.eq
    · intro w' hx; (try dsimp only [List.nil_append, List.cons_append, DepsL, DepsL1, setO, setN, favs, opsOf]); go_wp2; exact OpPostE.some _ rfl rfl (Ext.refl _) rfl
    with_reducible apply FromM.eq
    · intro w' hx; have h0x := hx.cell h0; have h1x := hx.cell h1; have h2x := hx.cell h2; have h3x := hx.cell h3; have h4x := hx.cell h4; have h5x := hx.cell h5; have d0x := hx.cell d0; have d1x := hx.cell d1; have d2x := hx.cell d2; (try dsimp only [List.nil_append, List.cons_append, DepsL, DepsL1, setO, setN, favs, opsOf]); go_wp2; exact OpPostE.some _ rfl rfl (Ext.refl _) rfl
    -- 10: t45
    with_reducible apply FromM.eq
    · intro w' hx; (try dsimp only [List.nil_append, List.cons_append, DepsL, DepsL1, setO, setN, favs, opsOf]); rintro v4 k4; rintro v7 k7; obtain ⟨a4, c4, rfl, _, _, r4⟩ := Own.form k4; obtain ⟨a7, c7, rfl, _, _, r7⟩ := Own.form k7; go_wp2_with (go_at_call 35; refine (CC.out _ _ _ _ _ r4 r7).mono ?_; rintro e w2 ⟨rfl, hb2⟩); exact OpPostE.some _ rfl rfl hb2 rfl
    with_reducible apply FromM.eq
    · intro w' hx; (try dsimp only [List.nil_append, List.cons_append, DepsL, DepsL1, setO, setN, favs, opsOf]); go_wp2; exact OpPostE.some _ rfl rfl (Ext.refl _) rfl
    with_reducible apply FromM.eq
    · intro w' hx; (try dsimp only [List.nil_append, List.cons_append, DepsL, DepsL1, setO, setN, favs, opsOf]); go_wp2; exact OpPostE.some _ rfl rfl (Ext.refl _) rfl
    with_reducible apply FromM.eq
    · intro w' hx; (try dsimp only [List.nil_append, List.cons_append, DepsL, DepsL1, setO, setN, favs, opsOf]); go_wp2; exact OpPostE.some _ rfl rfl (Ext.refl _) rfl
    with_reducible apply FromM.eq
    · intro w' hx; (try dsimp only [List.nil_append, List.cons_append, DepsL, DepsL1, setO, setN, favs, opsOf]); go_wp2; exact OpPostE.some _ rfl rfl (Ext.refl _) rfl
    with_reducible apply FromM.eq
    · intro w' hx; (try dsimp only [List.nil_append, List.cons_append, DepsL, DepsL1, setO, setN, favs, opsOf]); go_wp2; exact OpPostE.some _ rfl rfl (Ext.refl _) rfl
    with_reducible refine FromM.fin ?_
    intro w' hx
    (try dsimp only [List.nil_append, List.cons_append, EndL, DepsL1, setO, setN]); rintro v4 k4 v7 k7
    replace h0 := hx.cell h0
    replace h1 := hx.cell h1
    replace h2 := hx.cell h2
    replace h3 := hx.cell h3
    replace h4 := hx.cell h4
    replace h5 := hx.cell h5
    replace d0 := hx.cell d0
    replace d1 := hx.cell d1
    replace d2 := hx.cell d2
    replace X := X.trans hx
    clear hx k4 k7
    obtain ⟨wq, hwq⟩ : ∃ q : World, q = w' := ⟨_, rfl⟩
    subst hwq
    go_wp2_with fail
    refine region_factsL [[], [(0, 49)], [], [(2, 51)], [(3, 52)], [], [(5, 54)], [(6, 55)], [], [(8, 57)], [(1, 50), (4, 53), (7, 56), (9, 58)], [(10, 59)], [(11, 48)], [(11, 48)], [(12, 60)], [(13, 61)]] [some 49, some 50, some 51, some 52, some 53, some 54, some 55, some 56, some 57, some 58, some 59, some 48, some 60, some 61, some 6, some 7] [false, true, false, true, false, false, false, false, false, false, false, false, false, false, false, false, false, false, false, false, false, false, false, false, false, false, false, false, false, false, false, false, false, false, false, false, false, false, false, false, false, false, false, false, false, false, false, false, false, false, false, false, false, false, false, false, false, false, false, false, false, false, false, false, false, false, false, false, false, false, false, false, false, false, false, false, false, false, false, false, false, false, false, false, false, false, false, false, false, false, false, false, false, false, false, false, false, false, false, false, false, false, false, false, false, false, false, false, false, false, false, false, false, false, false, false, false, false, false, false, false, false, false, false, false, false, false, false, false, false, false, false, false, false, false, false, false, false, false, false, false, false, false, false, false, false, false, false, false, false, false, false, false, false, false, false, false, false, false, false, false, false, false, false, false, false] (by kernel_rfl) (by kernel_rfl) (by kernel_rfl) ?_
    dsimp only [maskL]
    with_reducible apply FromM.eq
    · intro w' hx; have h0x := hx.cell h0; have h1x := hx.cell h1; have h2x := hx.cell h2; have h3x := hx.cell h3; have h4x := hx.cell h4; have h5x := hx.cell h5; have d0x := hx.cell d0; have d1x := hx.cell d1; have d2x := hx.cell d2; (try dsimp only [List.nil_append, List.cons_append, DepsL, DepsL1, setO, setN, favs, opsOf]); go_wp2; exact OpPostE.some _ rfl rfl (Ext.refl _) rfl
    with_reducible apply FromM.eq
    · intro w' hx; (try dsimp only [List.nil_append, List.cons_append, DepsL, DepsL1, setO, setN, favs, opsOf]); refine op_call 15 [.tmp 49] _ _ _ rfl rfl rfl rfl rfl rfl (fun _ _ => Try.call15 _ _) (of_c p n k _) (fun e w2 h_ => ?_); obtain ⟨rfl, hb2⟩ := h_; exact ⟨_, rfl, hb2, rfl⟩
    with_reducible apply FromM.eq
    · intro w' hx; (try dsimp only [List.nil_append, List.cons_append, DepsL, DepsL1, setO, setN, favs, opsOf]); go_wp2; exact OpPostE.some _ rfl rfl (Ext.refl _) rfl
    with_reducible apply FromM.eq
    · intro w' hx; have h0x := hx.cell h0; have h1x := hx.cell h1; have h2x := hx.cell h2; have h3x := hx.cell h3; have h4x := hx.cell h4; have h5x := hx.cell h5; have d0x := hx.cell d0; have d1x := hx.cell d1; have d2x := hx.cell d2; (try dsimp only [List.nil_append, List.cons_append, DepsL, DepsL1, setO, setN, favs, opsOf]); go_wp2; exact OpPostE.some _ rfl rfl (Ext.refl _) rfl
    refine FromM.step (OwnF w.heap.size l) (OwnF.mono) ?_ ?_
    · intro w' hx; (try dsimp only [List.nil_append, List.cons_append, DepsL, DepsL1, setO, setN, favs, opsOf]); skip;
      refine op_call 16 [.tmp 52] _ _ _ rfl rfl rfl rfl rfl rfl (fun _ _ => Try.call16 _ _) (OCA.out _ _ _ (HA.out.ext (X.trans hx))) (fun e w2 h_ => ?_); obtain ⟨v, rfl, ho, hn'⟩ := h_; exact ⟨_, rfl, hn', (ho.base (X.trans hx).size)⟩
    with_reducible apply FromM.eq
    · intro w' hx; (try dsimp only [List.nil_append, List.cons_append, DepsL, DepsL1, setO, setN, favs, opsOf]); go_wp2; exact OpPostE.some _ rfl rfl (Ext.refl _) rfl
    with_reducible apply FromM.eq
    · intro w' hx; have h0x := hx.cell h0; have h1x := hx.cell h1; have h2x := hx.cell h2; have h3x := hx.cell h3; have h4x := hx.cell h4; have h5x := hx.cell h5; have d0x := hx.cell d0; have d1x := hx.cell d1; have d2x := hx.cell d2; (try dsimp only [List.nil_append, List.cons_append, DepsL, DepsL1, setO, setN, favs, opsOf]); go_wp2; exact OpPostE.some _ rfl rfl (Ext.refl _) rfl
    refine FromM.step (OwnF w.heap.size m) (OwnF.mono) ?_ ?_
    · intro w' hx; (try dsimp only [List.nil_append, List.cons_append, DepsL, DepsL1, setO, setN, favs, opsOf]); skip;
      refine op_call 16 [.tmp 55] _ _ _ rfl rfl rfl rfl rfl rfl (fun _ _ => Try.call16 _ _) (OCB.out _ _ _ (HB.out.ext (X.trans hx))) (fun e w2 h_ => ?_); obtain ⟨v, rfl, ho, hn'⟩ := h_; exact ⟨_, rfl, hn', (ho.base (X.trans hx).size)⟩
    with_reducible apply FromM.eq
    · intro w' hx; (try dsimp only [List.nil_append, List.cons_append, DepsL, DepsL1, setO, setN, favs, opsOf]); go_wp2; exact OpPostE.some _ rfl rfl (Ext.refl _) rfl
    with_reducible apply FromM.eq
    · intro w' hx; have h0x := hx.cell h0; have h1x := hx.cell h1; have h2x := hx.cell h2; have h3x := hx.cell h3; have h4x := hx.cell h4; have h5x := hx.cell h5; have d0x := hx.cell d0; have d1x := hx.cell d1; have d2x := hx.cell d2; (try dsimp only [List.nil_append, List.cons_append, DepsL, DepsL1, setO, setN, favs, opsOf]); go_wp2; exact OpPostE.some _ rfl rfl (Ext.refl _) rfl
    -- 10: t59
    with_reducible apply FromM.eq
    · intro w' hx; (try dsimp only [List.nil_append, List.cons_append, DepsL, DepsL1, setO, setN, favs, opsOf]); rintro v4 k4; rintro v7 k7; obtain ⟨a4, c4, rfl, _, _, r4⟩ := Own.form k4; obtain ⟨a7, c7, rfl, _, _, r7⟩ := Own.form k7; go_wp2_with (go_at_call 36; refine (CA.out _ _ _ _ _ r4 r7).mono ?_; rintro e w2 ⟨rfl, hb2⟩); exact OpPostE.some _ rfl rfl hb2 rfl
    with_reducible apply FromM.eq
    · intro w' hx; (try dsimp only [List.nil_append, List.cons_append, DepsL, DepsL1, setO, setN, favs, opsOf]); go_wp2; exact OpPostE.some _ rfl rfl (Ext.refl _) rfl
    with_reducible apply FromM.eq
    · intro w' hx; (try dsimp only [List.nil_append, List.cons_append, DepsL, DepsL1, setO, setN, favs, opsOf]); go_wp2; exact OpPostE.some _ rfl rfl (Ext.refl _) rfl
    with_reducible apply FromM.eq
    · intro w' hx; (try dsimp only [List.nil_append, List.cons_append, DepsL, DepsL1, setO, setN, favs, opsOf]); go_wp2; exact OpPostE.some _ rfl rfl (Ext.refl _) rfl
    with_reducible apply FromM.eq
    · intro w' hx; (try dsimp only [List.nil_append, List.cons_append, DepsL, DepsL1, setO, setN, favs, opsOf]); go_wp2; exact OpPostE.some _ rfl rfl (Ext.refl _) rfl
    with_reducible apply FromM.eq
    · intro w' hx; (try dsimp only [List.nil_append, List.cons_append, DepsL, DepsL1, setO, setN, favs, opsOf]); go_wp2; exact OpPostE.some _ rfl rfl (Ext.refl _) rfl
    with_reducible refine FromM.fin ?_
    intro w' hx
    (try dsimp only [List.nil_append, List.cons_append, EndL, DepsL1, setO, setN]); rintro v4 k4 v7 k7
    replace h0 := hx.cell h0
    replace h1 := hx.cell h1
    replace h2 := hx.cell h2
    replace h3 := hx.cell h3
    replace h4 := hx.cell h4
    replace h5 := hx.cell h5
    replace d0 := hx.cell d0
    replace d1 := hx.cell d1
    replace d2 := hx.cell d2
    replace X := X.trans hx
    clear hx k4 k7
    obtain ⟨wq, hwq⟩ : ∃ q : World, q = w' := ⟨_, rfl⟩
    subst hwq
    go_wp2_with fail
    refine (HRV.out _).mono ?_; rintro e w5 ⟨rfl, x⟩
    replace h0 := x.cell h0
    replace h1 := x.cell h1
    replace h2 := x.cell h2
    replace h3 := x.cell h3
    replace h4 := x.cell h4
    replace h5 := x.cell h5
    replace d0 := x.cell d0
    replace d1 := x.cell d1
    replace d2 := x.cell d2
    replace X := X.trans x
    clear x
    go_wp2_with fail
    go_ret
    exact ⟨rfl, X⟩
  rw [hv] at RV1
  have HRV := Lib.hid RV1
  clear RV1
  cases hc : cval p n k
  case false =>
    have hbad : ¬ (cval p n k = true ∧ p ≤ 257 ∧ (l.length : Int) = n ∧ (m.length : Int) = n ∧ 0 ≤ e ∧ e ≤ (n - k) / 3) := fun h => by rw [hc] at h; cases h.1
    have en : cLine p n k l m e = ([], 1) := by unfold cLine; rw [if_neg (by rw [hv]; simp), if_neg hbad]
    have ea : cApart p n k l m e = (0, 1) := by unfold cApart; rw [en, if_neg (by decide)]
    have CC : Hid (∀ w' (a b : Option Addr) (c d : Nat), Rd w' a l → Rd w' b m → Calls Try.prog 35 #[.agg #[.int .u64 p, .int .i64 n, .int .i64 k], .slice a l.length c, .slice b m.length d, .int .i64 e] w' fun e w'' => e = .returned (.tuple #[.int .i64 0, .int .i64 1]) ∧ Ext w' w'') := Lib.hid (fun w' a b c d h1 h2 => by have q := Close_c p n k l m e a b c d w' h1 h2 hn hn2; rw [en] at q; exact q)
    have CA : Hid (∀ w' (a b : Option Addr) (c d : Nat), Rd w' a l → Rd w' b m → Calls Try.prog 36 #[.agg #[.int .u64 p, .int .i64 n, .int .i64 k], .slice a l.length c, .slice b m.length d, .int .i64 e] w' fun e w'' => e = .returned (.tuple #[.int .i64 0, .int .i64 1]) ∧ Ext w' w'') := Lib.hid (fun w' a b c d h1 h2 => by have q := Apart_c p n k l m e a b c d w' h1 h2 hn hn2; rw [ea] at q; exact q)
    have HRVC := Lib.hid RVC
    clear RVC en ea hbad
    rw [hc] at HRVC
    clear hv hc
    go_enter Try.func10, Try.ntmps10
    go_wp2_with fail
    refine (awake6_c _).mono ?_; rintro e w1 ⟨rfl, x0⟩
    replace h0 := x0.cell h0
    replace h1 := x0.cell h1
    replace h2 := x0.cell h2
    replace h3 := x0.cell h3
    replace h4 := x0.cell h4
    replace h5 := x0.cell h5
    have X := x0.box
    clear x0
    have q3 : (w1.alloc (.cells #[.int .u64 p, .int .i64 n, .int .i64 k] 24)).cell? ⟨w.heap.size, 3, none⟩ = some (.slice a l.length c) := ((Ext.refl w1).alloc _).cell h3
    have q4 : (w1.alloc (.cells #[.int .u64 p, .int .i64 n, .int .i64 k] 24)).cell? ⟨w.heap.size, 4, none⟩ = some (.slice b m.length f) := ((Ext.refl w1).alloc _).cell h4
    go_wp2_with fail
    refine (SC.out _ _ (by simp) (by simp)).mono ?_; rintro e w3 ⟨rfl, x⟩
    have d0 : w3.cell? ⟨w1.heap.size, 0, none⟩ = some (.int .u64 p) := x.box.cell (by simp)
    have d1 : w3.cell? ⟨w1.heap.size, 1, none⟩ = some (.int .i64 n) := x.box.cell (by simp)
    have d2 : w3.cell? ⟨w1.heap.size, 2, none⟩ = some (.int .i64 k) := x.box.cell (by simp)
    replace h0 := x.box.box.cell h0
    replace h1 := x.box.box.cell h1
    replace h2 := x.box.box.cell h2
    replace h3 := x.box.box.cell h3
    replace h4 := x.box.box.cell h4
    replace h5 := x.box.box.cell h5
    replace X := X.trans x.box.box
    clear x q3 q4
    go_wp2_with fail
    refine (HRVC.out _).mono ?_; rintro e w4 ⟨rfl, x⟩
    replace h0 := x.cell h0
    replace h1 := x.cell h1
    replace h2 := x.cell h2
    replace h3 := x.cell h3
    replace h4 := x.cell h4
    replace h5 := x.cell h5
    replace d0 := x.cell d0
    replace d1 := x.cell d1
    replace d2 := x.cell d2
    replace X := X.trans x
    clear x
    go_wp2_with fail
    refine region_factsL [[], [(0, 35)], [], [(2, 37)], [(3, 38)], [], [(5, 40)], [(6, 41)], [], [(8, 43)], [(1, 36), (4, 39), (7, 42), (9, 44)], [(10, 45)], [(11, 34)], [(11, 34)], [(12, 46)], [(13, 47)]] [some 35, some 36, some 37, some 38, some 39, some 40, some 41, some 42, some 43, some 44, some 45, some 34, some 46, some 47, some 4, some 5] [false, true, false, true, false, false, false, false, false, false, false, false, false, false, false, false, false, false, false, false, false, false, false, false, false, false, false, false, false, false, false, false, false, false, false, false, false, false, false, false, false, false, false, false, false, false, false, false, false, false, false, false, false, false, false, false, false, false, false, false, false, false, false, false, false, false, false, false, false, false, false, false, false, false, false, false, false, false, false, false, false, false, false, false, false, false, false, false, false, false, false, false, false, false, false, false, false, false, false, false, false, false, false, false, false, false, false, false, false, false, false, false, false, false, false, false, false, false, false, false, false, false, false, false, false, false, false, false, false, false, false, false, false, false, false, false, false, false, false, false, false, false, false, false, false, false, false, false, false, false, false, false, false, false, false, false, false, false, false, false, false, false, false, false, false, false] (by kernel_rfl) (by kernel_rfl) (by kernel_rfl) ?_
    dsimp only [maskL]
    with_reducible apply FromM.eq
    · intro w' hx; have h0x := hx.cell h0; have h1x := hx.cell h1; have h2x := hx.cell h2; have h3x := hx.cell h3; have h4x := hx.cell h4; have h5x := hx.cell h5; have d0x := hx.cell d0; have d1x := hx.cell d1; have d2x := hx.cell d2; (try dsimp only [List.nil_append, List.cons_append, DepsL, DepsL1, setO, setN, favs, opsOf]); go_wp2; exact OpPostE.some _ rfl rfl (Ext.refl _) rfl
    with_reducible apply FromM.eq
    · intro w' hx; (try dsimp only [List.nil_append, List.cons_append, DepsL, DepsL1, setO, setN, favs, opsOf]); refine op_call 15 [.tmp 35] _ _ _ rfl rfl rfl rfl rfl rfl (fun _ _ => Try.call15 _ _) (of_c p n k _) (fun e w2 h_ => ?_); obtain ⟨rfl, hb2⟩ := h_; exact ⟨_, rfl, hb2, rfl⟩
    with_reducible apply FromM.eq
    · intro w' hx; (try dsimp only [List.nil_append, List.cons_append, DepsL, DepsL1, setO, setN, favs, opsOf]); go_wp2; exact OpPostE.some _ rfl rfl (Ext.refl _) rfl
    with_reducible apply FromM.eq
    · intro w' hx; have h0x := hx.cell h0; have h1x := hx.cell h1; have h2x := hx.cell h2; have h3x := hx.cell h3; have h4x := hx.cell h4; have h5x := hx.cell h5; have d0x := hx.cell d0; have d1x := hx.cell d1; have d2x := hx.cell d2; (try dsimp only [List.nil_append, List.cons_append, DepsL, DepsL1, setO, setN, favs, opsOf]); go_wp2; exact OpPostE.some _ rfl rfl (Ext.refl _) rfl
    refine FromM.step (OwnF w.heap.size l) (OwnF.mono) ?_ ?_
    · intro w' hx; (try dsimp only [List.nil_append, List.cons_append, DepsL, DepsL1, setO, setN, favs, opsOf]); skip;
      refine op_call 16 [.tmp 38] _ _ _ rfl rfl rfl rfl rfl rfl (fun _ _ => Try.call16 _ _) (OCA.out _ _ _ (HA.out.ext (X.trans hx))) (fun e w2 h_ => ?_); obtain ⟨v, rfl, ho, hn'⟩ := h_; exact ⟨_, rfl, hn', (ho.base (X.trans hx).size)⟩
    with_reducible apply FromM.eq
    · intro w' hx; (try dsimp only [List.nil_append, List.cons_append, DepsL, DepsL1, setO, setN, favs, opsOf]); go_wp2; exact OpPostE.some _ rfl rfl (Ext.refl _) rfl
    with_reducible apply FromM.eq
    · intro w' hx; have h0x := hx.cell h0; have h1x := hx.cell h1; have h2x := hx.cell h2; have h3x := hx.cell h3; have h4x := hx.cell h4; have h5x := hx.cell h5; have d0x := hx.cell d0; have d1x := hx.cell d1; have d2x := hx.cell d2; (try dsimp only [List.nil_append, List.cons_append, DepsL, DepsL1, setO, setN, favs, opsOf]); go_wp2; exact OpPostE.some _ rfl rfl (Ext.refl _) rfl
    refine FromM.step (OwnF w.heap.size m) (OwnF.mono) ?_ ?_
    · intro w' hx; (try dsimp only [List.nil_append, List.cons_append, DepsL, DepsL1, setO, setN, favs, opsOf]); skip;
      refine op_call 16 [.tmp 41] _ _ _ rfl rfl rfl rfl rfl rfl (fun _ _ => Try.call16 _ _) (OCB.out _ _ _ (HB.out.ext (X.trans hx))) (fun e w2 h_ => ?_); obtain ⟨v, rfl, ho, hn'⟩ := h_; exact ⟨_, rfl, hn', (ho.base (X.trans hx).size)⟩
    with_reducible apply FromM.eq
    · intro w' hx; (try dsimp only [List.nil_append, List.cons_append, DepsL, DepsL1, setO, setN, favs, opsOf]); go_wp2; exact OpPostE.some _ rfl rfl (Ext.refl _) rfl
    with_reducible apply FromM.eq
    · intro w' hx; have h0x := hx.cell h0; have h1x := hx.cell h1; have h2x := hx.cell h2; have h3x := hx.cell h3; have h4x := hx.cell h4; have h5x := hx.cell h5; have d0x := hx.cell d0; have d1x := hx.cell d1; have d2x := hx.cell d2; (try dsimp only [List.nil_append, List.cons_append, DepsL, DepsL1, setO, setN, favs, opsOf]); go_wp2; exact OpPostE.some _ rfl rfl (Ext.refl _) rfl
    -- 10: t45
    with_reducible apply FromM.eq
    · intro w' hx; (try dsimp only [List.nil_append, List.cons_append, DepsL, DepsL1, setO, setN, favs, opsOf]); rintro v4 k4; rintro v7 k7; obtain ⟨a4, c4, rfl, _, _, r4⟩ := Own.form k4; obtain ⟨a7, c7, rfl, _, _, r7⟩ := Own.form k7; go_wp2_with (go_at_call 35; refine (CC.out _ _ _ _ _ r4 r7).mono ?_; rintro e w2 ⟨rfl, hb2⟩); exact OpPostE.some _ rfl rfl hb2 rfl
    with_reducible apply FromM.eq
    · intro w' hx; (try dsimp only [List.nil_append, List.cons_append, DepsL, DepsL1, setO, setN, favs, opsOf]); go_wp2; exact OpPostE.some _ rfl rfl (Ext.refl _) rfl
    with_reducible apply FromM.eq
    · intro w' hx; (try dsimp only [List.nil_append, List.cons_append, DepsL, DepsL1, setO, setN, favs, opsOf]); go_wp2; exact OpPostE.some _ rfl rfl (Ext.refl _) rfl
    with_reducible apply FromM.eq
    · intro w' hx; (try dsimp only [List.nil_append, List.cons_append, DepsL, DepsL1, setO, setN, favs, opsOf]); go_wp2; exact OpPostE.some _ rfl rfl (Ext.refl _) rfl
    with_reducible apply FromM.eq
    · intro w' hx; (try dsimp only [List.nil_append, List.cons_append, DepsL, DepsL1, setO, setN, favs, opsOf]); go_wp2; exact OpPostE.some _ rfl rfl (Ext.refl _) rfl
    with_reducible apply FromM.eq
    · intro w' hx; (try dsimp only [List.nil_append, List.cons_append, DepsL, DepsL1, setO, setN, favs, opsOf]); go_wp2; exact OpPostE.some _ rfl rfl (Ext.refl _) rfl
    with_reducible refine FromM.fin ?_
    intro w' hx
    (try dsimp only [List.nil_append, List.cons_append, EndL, DepsL1, setO, setN]); rintro v4 k4 v7 k7
    replace h0 := hx.cell h0
    replace h1 := hx.cell h1
    replace h2 := hx.cell h2
    replace h3 := hx.cell h3
    replace h4 := hx.cell h4
    replace h5 := hx.cell h5
    replace d0 := hx.cell d0
    replace d1 := hx.cell d1
    replace d2 := hx.cell d2
    replace X := X.trans hx
    clear hx k4 k7
    obtain ⟨wq, hwq⟩ : ∃ q : World, q = w' := ⟨_, rfl⟩
    subst hwq
    go_wp2_with fail
    refine region_factsL [[], [(0, 49)], [], [(2, 51)], [(3, 52)], [], [(5, 54)], [(6, 55)], [], [(8, 57)], [(1, 50), (4, 53), (7, 56), (9, 58)], [(10, 59)], [(11, 48)], [(11, 48)], [(12, 60)], [(13, 61)]] [some 49, some 50, some 51, some 52, some 53, some 54, some 55, some 56, some 57, some 58, some 59, some 48, some 60, some 61, some 6, some 7] [false, true, false, true, false, false, false, false, false, false, false, false, false, false, false, false, false, false, false, false, false, false, false, false, false, false, false, false, false, false, false, false, false, false, false, false, false, false, false, false, false, false, false, false, false, false, false, false, false, false, false, false, false, false, false, false, false, false, false, false, false, false, false, false, false, false, false, false, false, false, false, false, false, false, false, false, false, false, false, false, false, false, false, false, false, false, false, false, false, false, false, false, false, false, false, false, false, false, false, false, false, false, false, false, false, false, false, false, false, false, false, false, false, false, false, false, false, false, false, false, false, false, false, false, false, false, false, false, false, false, false, false, false, false, false, false, false, false, false, false, false, false, false, false, false, false, false, false, false, false, false, false, false, false, false, false, false, false, false, false, false, false, false, false, false, false] (by kernel_rfl) (by kernel_rfl) (by kernel_rfl) ?_
    dsimp only [maskL]
    with_reducible apply FromM.eq
    · intro w' hx; have h0x := hx.cell h0; have h1x := hx.cell h1; have h2x := hx.cell h2; have h3x := hx.cell h3; have h4x := hx.cell h4; have h5x := hx.cell h5; have d0x := hx.cell d0; have d1x := hx.cell d1; have d2x := hx.cell d2; (try dsimp only [List.nil_append, List.cons_append, DepsL, DepsL1, setO, setN, favs, opsOf]); go_wp2; exact OpPostE.some _ rfl rfl (Ext.refl _) rfl
    with_reducible apply FromM.eq
    · intro w' hx; (try dsimp only [List.nil_append, List.cons_append, DepsL, DepsL1, setO, setN, favs, opsOf]); refine op_call 15 [.tmp 49] _ _ _ rfl rfl rfl rfl rfl rfl (fun _ _ => Try.call15 _ _) (of_c p n k _) (fun e w2 h_ => ?_); obtain ⟨rfl, hb2⟩ := h_; exact ⟨_, rfl, hb2, rfl⟩
    with_reducible apply FromM.eq
    · intro w' hx; (try dsimp only [List.nil_append, List.cons_append, DepsL, DepsL1, setO, setN, favs, opsOf]); go_wp2; exact OpPostE.some _ rfl rfl (Ext.refl _) rfl
    with_reducible apply FromM.eq
    · intro w' hx; have h0x := hx.cell h0; have h1x := hx.cell h1; have h2x := hx.cell h2; have h3x := hx.cell h3; have h4x := hx.cell h4; have h5x := hx.cell h5; have d0x := hx.cell d0; have d1x := hx.cell d1; have d2x := hx.cell d2; (try dsimp only [List.nil_append, List.cons_append, DepsL, DepsL1, setO, setN, favs, opsOf]); go_wp2; exact OpPostE.some _ rfl rfl (Ext.refl _) rfl
    refine FromM.step (OwnF w.heap.size l) (OwnF.mono) ?_ ?_
    · intro w' hx; (try dsimp only [List.nil_append, List.cons_append, DepsL, DepsL1, setO, setN, favs, opsOf]); skip;
      refine op_call 16 [.tmp 52] _ _ _ rfl rfl rfl rfl rfl rfl (fun _ _ => Try.call16 _ _) (OCA.out _ _ _ (HA.out.ext (X.trans hx))) (fun e w2 h_ => ?_); obtain ⟨v, rfl, ho, hn'⟩ := h_; exact ⟨_, rfl, hn', (ho.base (X.trans hx).size)⟩
    with_reducible apply FromM.eq
    · intro w' hx; (try dsimp only [List.nil_append, List.cons_append, DepsL, DepsL1, setO, setN, favs, opsOf]); go_wp2; exact OpPostE.some _ rfl rfl (Ext.refl _) rfl
    with_reducible apply FromM.eq
    · intro w' hx; have h0x := hx.cell h0; have h1x := hx.cell h1; have h2x := hx.cell h2; have h3x := hx.cell h3; have h4x := hx.cell h4; have h5x := hx.cell h5; have d0x := hx.cell d0; have d1x := hx.cell d1; have d2x := hx.cell d2; (try dsimp only [List.nil_append, List.cons_append, DepsL, DepsL1, setO, setN, favs, opsOf]); go_wp2; exact OpPostE.some _ rfl rfl (Ext.refl _) rfl
    refine FromM.step (OwnF w.heap.size m) (OwnF.mono) ?_ ?_
    · intro w' hx; (try dsimp only [List.nil_append, List.cons_append, DepsL, DepsL1, setO, setN, favs, opsOf]); skip;
      refine op_call 16 [.tmp 55] _ _ _ rfl rfl rfl rfl rfl rfl (fun _ _ => Try.call16 _ _) (OCB.out _ _ _ (HB.out.ext (X.trans hx))) (fun e w2 h_ => ?_); obtain ⟨v, rfl, ho, hn'⟩ := h_; exact ⟨_, rfl, hn', (ho.base (X.trans hx).size)⟩
    with_reducible apply FromM.eq
    · intro w' hx; (try dsimp only [List.nil_append, List.cons_append, DepsL, DepsL1, setO, setN, favs, opsOf]); go_wp2; exact OpPostE.some _ rfl rfl (Ext.refl _) rfl
    with_reducible apply FromM.eq
    · intro w' hx; have h0x := hx.cell h0; have h1x := hx.cell h1; have h2x := hx.cell h2; have h3x := hx.cell h3; have h4x := hx.cell h4; have h5x := hx.cell h5; have d0x := hx.cell d0; have d1x := hx.cell d1; have d2x := hx.cell d2; (try dsimp only [List.nil_append, List.cons_append, DepsL, DepsL1, setO, setN, favs, opsOf]); go_wp2; exact OpPostE.some _ rfl rfl (Ext.refl _) rfl
    -- 10: t59
    with_reducible apply FromM.eq
    · intro w' hx; (try dsimp only [List.nil_append, List.cons_append, DepsL, DepsL1, setO, setN, favs, opsOf]); rintro v4 k4; rintro v7 k7; obtain ⟨a4, c4, rfl, _, _, r4⟩ := Own.form k4; obtain ⟨a7, c7, rfl, _, _, r7⟩ := Own.form k7; go_wp2_with (go_at_call 36; refine (CA.out _ _ _ _ _ r4 r7).mono ?_; rintro e w2 ⟨rfl, hb2⟩); exact OpPostE.some _ rfl rfl hb2 rfl
    with_reducible apply FromM.eq
    · intro w' hx; (try dsimp only [List.nil_append, List.cons_append, DepsL, DepsL1, setO, setN, favs, opsOf]); go_wp2; exact OpPostE.some _ rfl rfl (Ext.refl _) rfl
    with_reducible apply FromM.eq
    · intro w' hx; (try dsimp only [List.nil_append, List.cons_append, DepsL, DepsL1, setO, setN, favs, opsOf]); go_wp2; exact OpPostE.some _ rfl rfl (Ext.refl _) rfl
    with_reducible apply FromM.eq
    · intro w' hx; (try dsimp only [List.nil_append, List.cons_append, DepsL, DepsL1, setO, setN, favs, opsOf]); go_wp2; exact OpPostE.some _ rfl rfl (Ext.refl _) rfl
    with_reducible apply FromM.eq
    · intro w' hx; (try dsimp only [List.nil_append, List.cons_append, DepsL, DepsL1, setO, setN, favs, opsOf]); go_wp2; exact OpPostE.some _ rfl rfl (Ext.refl _) rfl
    with_reducible apply FromM.eq
    · intro w' hx; (try dsimp only [List.nil_append, List.cons_append, DepsL, DepsL1, setO, setN, favs, opsOf]); go_wp2; exact OpPostE.some _ rfl rfl (Ext.refl _) rfl
    with_reducible refine FromM.fin ?_
    intro w' hx
    (try dsimp only [List.nil_append, List.cons_append, EndL, DepsL1, setO, setN]); rintro v4 k4 v7 k7
    replace h0 := hx.cell h0
    replace h1 := hx.cell h1
    replace h2 := hx.cell h2
    replace h3 := hx.cell h3
    replace h4 := hx.cell h4
    replace h5 := hx.cell h5
    replace d0 := hx.cell d0
    replace d1 := hx.cell d1
    replace d2 := hx.cell d2
    replace X := X.trans hx
    clear hx k4 k7
    obtain ⟨wq, hwq⟩ : ∃ q : World, q = w' := ⟨_, rfl⟩
    subst hwq
    go_wp2_with fail
    refine (HRV.out _).mono ?_; rintro e w5 ⟨rfl, x⟩
    replace h0 := x.cell h0
    replace h1 := x.cell h1
    replace h2 := x.cell h2
    replace h3 := x.cell h3
    replace h4 := x.cell h4
    replace h5 := x.cell h5
    replace d0 := x.cell d0
    replace d1 := x.cell d1
    replace d2 := x.cell d2
    replace X := X.trans x
    clear x
    go_wp2_with fail
    refine (HRVC.out _).mono ?_; rintro e w6 ⟨rfl, x⟩
    replace h0 := x.cell h0
    replace h1 := x.cell h1
    replace h2 := x.cell h2
    replace h3 := x.cell h3
    replace h4 := x.cell h4
    replace h5 := x.cell h5
    replace d0 := x.cell d0
    replace d1 := x.cell d1
    replace d2 := x.cell d2
    replace X := X.trans x
    clear x
    go_wp2_with fail
    go_ret
    exact ⟨rfl, X⟩
  obtain ⟨hb1, hb2, hb3, hb4, hb5, hb6, hb7⟩ := (cval_iff p n k).1 hc
  clear hb1 hb4
  by_cases hp : p ≤ 257
  case neg =>
    have t0 : decide (p ≤ 257) = false := decide_eq_false hp
    have t0' : decide ((p : Int) ≤ 257) = false := decide_eq_false (by omega)
    have t0'' : decide (257 < p) = true := decide_eq_true (by omega)
    have t03 : decide ((257 : Int) < (p : Int)) = true := decide_eq_true (by omega)
    have hbad : ¬ (cval p n k = true ∧ p ≤ 257 ∧ (l.length : Int) = n ∧ (m.length : Int) = n ∧ 0 ≤ e ∧ e ≤ (n - k) / 3) := fun h => hp h.2.1
    have en : cLine p n k l m e = ([], 1) := by unfold cLine; rw [if_neg (by rw [hv]; simp), if_neg hbad]
    have ea : cApart p n k l m e = (0, 1) := by unfold cApart; rw [en, if_neg (by decide)]
    have CC : Hid (∀ w' (a b : Option Addr) (c d : Nat), Rd w' a l → Rd w' b m → Calls Try.prog 35 #[.agg #[.int .u64 p, .int .i64 n, .int .i64 k], .slice a l.length c, .slice b m.length d, .int .i64 e] w' fun e w'' => e = .returned (.tuple #[.int .i64 0, .int .i64 1]) ∧ Ext w' w'') := Lib.hid (fun w' a b c d h1 h2 => by have q := Close_c p n k l m e a b c d w' h1 h2 hn hn2; rw [en] at q; exact q)
    have CA : Hid (∀ w' (a b : Option Addr) (c d : Nat), Rd w' a l → Rd w' b m → Calls Try.prog 36 #[.agg #[.int .u64 p, .int .i64 n, .int .i64 k], .slice a l.length c, .slice b m.length d, .int .i64 e] w' fun e w'' => e = .returned (.tuple #[.int .i64 0, .int .i64 1]) ∧ Ext w' w'') := Lib.hid (fun w' a b c d h1 h2 => by have q := Apart_c p n k l m e a b c d w' h1 h2 hn hn2; rw [ea] at q; exact q)
    have HRVC := Lib.hid RVC
    clear RVC en ea hbad
    rw [hc] at HRVC
    clear hv hc
    go_enter Try.func10, Try.ntmps10
    go_wp2_with fail
    refine (awake6_c _).mono ?_; rintro e w1 ⟨rfl, x0⟩
    replace h0 := x0.cell h0
    replace h1 := x0.cell h1
    replace h2 := x0.cell h2
    replace h3 := x0.cell h3
    replace h4 := x0.cell h4
    replace h5 := x0.cell h5
    have X := x0.box
    clear x0
    have q3 : (w1.alloc (.cells #[.int .u64 p, .int .i64 n, .int .i64 k] 24)).cell? ⟨w.heap.size, 3, none⟩ = some (.slice a l.length c) := ((Ext.refl w1).alloc _).cell h3
    have q4 : (w1.alloc (.cells #[.int .u64 p, .int .i64 n, .int .i64 k] 24)).cell? ⟨w.heap.size, 4, none⟩ = some (.slice b m.length f) := ((Ext.refl w1).alloc _).cell h4
    go_wp2_with fail
    refine (SC.out _ _ (by simp) (by simp)).mono ?_; rintro e w3 ⟨rfl, x⟩
    have d0 : w3.cell? ⟨w1.heap.size, 0, none⟩ = some (.int .u64 p) := x.box.cell (by simp)
    have d1 : w3.cell? ⟨w1.heap.size, 1, none⟩ = some (.int .i64 n) := x.box.cell (by simp)
    have d2 : w3.cell? ⟨w1.heap.size, 2, none⟩ = some (.int .i64 k) := x.box.cell (by simp)
    replace h0 := x.box.box.cell h0
    replace h1 := x.box.box.cell h1
    replace h2 := x.box.box.cell h2
    replace h3 := x.box.box.cell h3
    replace h4 := x.box.box.cell h4
    replace h5 := x.box.box.cell h5
    replace X := X.trans x.box.box
    clear x q3 q4
    go_wp2_with fail
    refine (HRVC.out _).mono ?_; rintro e w4 ⟨rfl, x⟩
    replace h0 := x.cell h0
    replace h1 := x.cell h1
    replace h2 := x.cell h2
    replace h3 := x.cell h3
    replace h4 := x.cell h4
    replace h5 := x.cell h5
    replace d0 := x.cell d0
    replace d1 := x.cell d1
    replace d2 := x.cell d2
    replace X := X.trans x
    clear x
    go_wp2_with fail
    refine region_factsL [[], [(0, 35)], [], [(2, 37)], [(3, 38)], [], [(5, 40)], [(6, 41)], [], [(8, 43)], [(1, 36), (4, 39), (7, 42), (9, 44)], [(10, 45)], [(11, 34)], [(11, 34)], [(12, 46)], [(13, 47)]] [some 35, some 36, some 37, some 38, some 39, some 40, some 41, some 42, some 43, some 44, some 45, some 34, some 46, some 47, some 4, some 5] [false, true, false, true, false, false, false, false, false, false, false, false, false, false, false, false, false, false, false, false, false, false, false, false, false, false, false, false, false, false, false, false, false, false, false, false, false, false, false, false, false, false, false, false, false, false, false, false, false, false, false, false, false, false, false, false, false, false, false, false, false, false, false, false, false, false, false, false, false, false, false, false, false, false, false, false, false, false, false, false, false, false, false, false, false, false, false, false, false, false, false, false, false, false, false, false, false, false, false, false, false, false, false, false, false, false, false, false, false, false, false, false, false, false, false, false, false, false, false, false, false, false, false, false, false, false, false, false, false, false, false, false, false, false, false, false, false, false, false, false, false, false, false, false, false, false, false, false, false, false, false, false, false, false, false, false, false, false, false, false, false, false, false, false, false, false] (by kernel_rfl) (by kernel_rfl) (by kernel_rfl) ?_
    dsimp only [maskL]
    with_reducible apply FromM.eq
    · intro w' hx; have h0x := hx.cell h0; have h1x := hx.cell h1; have h2x := hx.cell h2; have h3x := hx.cell h3; have h4x := hx.cell h4; have h5x := hx.cell h5; have d0x := hx.cell d0; have d1x := hx.cell d1; have d2x := hx.cell d2; (try dsimp only [List.nil_append, List.cons_append, DepsL, DepsL1, setO, setN, favs, opsOf]); go_wp2; exact OpPostE.some _ rfl rfl (Ext.refl _) rfl
    with_reducible apply FromM.eq
    · intro w' hx; (try dsimp only [List.nil_append, List.cons_append, DepsL, DepsL1, setO, setN, favs, opsOf]); refine op_call 15 [.tmp 35] _ _ _ rfl rfl rfl rfl rfl rfl (fun _ _ => Try.call15 _ _) (of_c p n k _) (fun e w2 h_ => ?_); obtain ⟨rfl, hb2⟩ := h_; exact ⟨_, rfl, hb2, rfl⟩
    with_reducible apply FromM.eq
    · intro w' hx; (try dsimp only [List.nil_append, List.cons_append, DepsL, DepsL1, setO, setN, favs, opsOf]); go_wp2; exact OpPostE.some _ rfl rfl (Ext.refl _) rfl
    with_reducible apply FromM.eq
    · intro w' hx; have h0x := hx.cell h0; have h1x := hx.cell h1; have h2x := hx.cell h2; have h3x := hx.cell h3; have h4x := hx.cell h4; have h5x := hx.cell h5; have d0x := hx.cell d0; have d1x := hx.cell d1; have d2x := hx.cell d2; (try dsimp only [List.nil_append, List.cons_append, DepsL, DepsL1, setO, setN, favs, opsOf]); go_wp2; exact OpPostE.some _ rfl rfl (Ext.refl _) rfl
    refine FromM.step (OwnF w.heap.size l) (OwnF.mono) ?_ ?_
    · intro w' hx; (try dsimp only [List.nil_append, List.cons_append, DepsL, DepsL1, setO, setN, favs, opsOf]); skip;
      refine op_call 16 [.tmp 38] _ _ _ rfl rfl rfl rfl rfl rfl (fun _ _ => Try.call16 _ _) (OCA.out _ _ _ (HA.out.ext (X.trans hx))) (fun e w2 h_ => ?_); obtain ⟨v, rfl, ho, hn'⟩ := h_; exact ⟨_, rfl, hn', (ho.base (X.trans hx).size)⟩
    with_reducible apply FromM.eq
    · intro w' hx; (try dsimp only [List.nil_append, List.cons_append, DepsL, DepsL1, setO, setN, favs, opsOf]); go_wp2; exact OpPostE.some _ rfl rfl (Ext.refl _) rfl
    with_reducible apply FromM.eq
    · intro w' hx; have h0x := hx.cell h0; have h1x := hx.cell h1; have h2x := hx.cell h2; have h3x := hx.cell h3; have h4x := hx.cell h4; have h5x := hx.cell h5; have d0x := hx.cell d0; have d1x := hx.cell d1; have d2x := hx.cell d2; (try dsimp only [List.nil_append, List.cons_append, DepsL, DepsL1, setO, setN, favs, opsOf]); go_wp2; exact OpPostE.some _ rfl rfl (Ext.refl _) rfl
    refine FromM.step (OwnF w.heap.size m) (OwnF.mono) ?_ ?_
    · intro w' hx; (try dsimp only [List.nil_append, List.cons_append, DepsL, DepsL1, setO, setN, favs, opsOf]); skip;
      refine op_call 16 [.tmp 41] _ _ _ rfl rfl rfl rfl rfl rfl (fun _ _ => Try.call16 _ _) (OCB.out _ _ _ (HB.out.ext (X.trans hx))) (fun e w2 h_ => ?_); obtain ⟨v, rfl, ho, hn'⟩ := h_; exact ⟨_, rfl, hn', (ho.base (X.trans hx).size)⟩
    with_reducible apply FromM.eq
    · intro w' hx; (try dsimp only [List.nil_append, List.cons_append, DepsL, DepsL1, setO, setN, favs, opsOf]); go_wp2; exact OpPostE.some _ rfl rfl (Ext.refl _) rfl
    with_reducible apply FromM.eq
    · intro w' hx; have h0x := hx.cell h0; have h1x := hx.cell h1; have h2x := hx.cell h2; have h3x := hx.cell h3; have h4x := hx.cell h4; have h5x := hx.cell h5; have d0x := hx.cell d0; have d1x := hx.cell d1; have d2x := hx.cell d2; (try dsimp only [List.nil_append, List.cons_append, DepsL, DepsL1, setO, setN, favs, opsOf]); go_wp2; exact OpPostE.some _ rfl rfl (Ext.refl _) rfl
    -- 10: t45
    with_reducible apply FromM.eq
    · intro w' hx; (try dsimp only [List.nil_append, List.cons_append, DepsL, DepsL1, setO, setN, favs, opsOf]); rintro v4 k4; rintro v7 k7; obtain ⟨a4, c4, rfl, _, _, r4⟩ := Own.form k4; obtain ⟨a7, c7, rfl, _, _, r7⟩ := Own.form k7; go_wp2_with (go_at_call 35; refine (CC.out _ _ _ _ _ r4 r7).mono ?_; rintro e w2 ⟨rfl, hb2⟩); exact OpPostE.some _ rfl rfl hb2 rfl
    with_reducible apply FromM.eq
    · intro w' hx; (try dsimp only [List.nil_append, List.cons_append, DepsL, DepsL1, setO, setN, favs, opsOf]); go_wp2; exact OpPostE.some _ rfl rfl (Ext.refl _) rfl
    with_reducible apply FromM.eq
    · intro w' hx; (try dsimp only [List.nil_append, List.cons_append, DepsL, DepsL1, setO, setN, favs, opsOf]); go_wp2; exact OpPostE.some _ rfl rfl (Ext.refl _) rfl
    with_reducible apply FromM.eq
    · intro w' hx; (try dsimp only [List.nil_append, List.cons_append, DepsL, DepsL1, setO, setN, favs, opsOf]); go_wp2; exact OpPostE.some _ rfl rfl (Ext.refl _) rfl
    with_reducible apply FromM.eq
    · intro w' hx; (try dsimp only [List.nil_append, List.cons_append, DepsL, DepsL1, setO, setN, favs, opsOf]); go_wp2; exact OpPostE.some _ rfl rfl (Ext.refl _) rfl
    with_reducible apply FromM.eq
    · intro w' hx; (try dsimp only [List.nil_append, List.cons_append, DepsL, DepsL1, setO, setN, favs, opsOf]); go_wp2; exact OpPostE.some _ rfl rfl (Ext.refl _) rfl
    with_reducible refine FromM.fin ?_
    intro w' hx
    (try dsimp only [List.nil_append, List.cons_append, EndL, DepsL1, setO, setN]); rintro v4 k4 v7 k7
    replace h0 := hx.cell h0
    replace h1 := hx.cell h1
    replace h2 := hx.cell h2
    replace h3 := hx.cell h3
    replace h4 := hx.cell h4
    replace h5 := hx.cell h5
    replace d0 := hx.cell d0
    replace d1 := hx.cell d1
    replace d2 := hx.cell d2
    replace X := X.trans hx
    clear hx k4 k7
    obtain ⟨wq, hwq⟩ : ∃ q : World, q = w' := ⟨_, rfl⟩
    subst hwq
    go_wp2_with fail
    refine region_factsL [[], [(0, 49)], [], [(2, 51)], [(3, 52)], [], [(5, 54)], [(6, 55)], [], [(8, 57)], [(1, 50), (4, 53), (7, 56), (9, 58)], [(10, 59)], [(11, 48)], [(11, 48)], [(12, 60)], [(13, 61)]] [some 49, some 50, some 51, some 52, some 53, some 54, some 55, some 56, some 57, some 58, some 59, some 48, some 60, some 61, some 6, some 7] [false, true, false, true, false, false, false, false, false, false, false, false, false, false, false, false, false, false, false, false, false, false, false, false, false, false, false, false, false, false, false, false, false, false, false, false, false, false, false, false, false, false, false, false, false, false, false, false, false, false, false, false, false, false, false, false, false, false, false, false, false, false, false, false, false, false, false, false, false, false, false, false, false, false, false, false, false, false, false, false, false, false, false, false, false, false, false, false, false, false, false, false, false, false, false, false, false, false, false, false, false, false, false, false, false, false, false, false, false, false, false, false, false, false, false, false, false, false, false, false, false, false, false, false, false, false, false, false, false, false, false, false, false, false, false, false, false, false, false, false, false, false, false, false, false, false, false, false, false, false, false, false, false, false, false, false, false, false, false, false, false, false, false, false, false, false] (by kernel_rfl) (by kernel_rfl) (by kernel_rfl) ?_
    dsimp only [maskL]
    with_reducible apply FromM.eq
    · intro w' hx; have h0x := hx.cell h0; have h1x := hx.cell h1; have h2x := hx.cell h2; have h3x := hx.cell h3; have h4x := hx.cell h4; have h5x := hx.cell h5; have d0x := hx.cell d0; have d1x := hx.cell d1; have d2x := hx.cell d2; (try dsimp only [List.nil_append, List.cons_append, DepsL, DepsL1, setO, setN, favs, opsOf]); go_wp2; exact OpPostE.some _ rfl rfl (Ext.refl _) rfl
    with_reducible apply FromM.eq
    · intro w' hx; (try dsimp only [List.nil_append, List.cons_append, DepsL, DepsL1, setO, setN, favs, opsOf]); refine op_call 15 [.tmp 49] _ _ _ rfl rfl rfl rfl rfl rfl (fun _ _ => Try.call15 _ _) (of_c p n k _) (fun e w2 h_ => ?_); obtain ⟨rfl, hb2⟩ := h_; exact ⟨_, rfl, hb2, rfl⟩
    with_reducible apply FromM.eq
    · intro w' hx; (try dsimp only [List.nil_append, List.cons_append, DepsL, DepsL1, setO, setN, favs, opsOf]); go_wp2; exact OpPostE.some _ rfl rfl (Ext.refl _) rfl
    with_reducible apply FromM.eq
    · intro w' hx; have h0x := hx.cell h0; have h1x := hx.cell h1; have h2x := hx.cell h2; have h3x := hx.cell h3; have h4x := hx.cell h4; have h5x := hx.cell h5; have d0x := hx.cell d0; have d1x := hx.cell d1; have d2x := hx.cell d2; (try dsimp only [List.nil_append, List.cons_append, DepsL, DepsL1, setO, setN, favs, opsOf]); go_wp2; exact OpPostE.some _ rfl rfl (Ext.refl _) rfl
    refine FromM.step (OwnF w.heap.size l) (OwnF.mono) ?_ ?_
    · intro w' hx; (try dsimp only [List.nil_append, List.cons_append, DepsL, DepsL1, setO, setN, favs, opsOf]); skip;
      refine op_call 16 [.tmp 52] _ _ _ rfl rfl rfl rfl rfl rfl (fun _ _ => Try.call16 _ _) (OCA.out _ _ _ (HA.out.ext (X.trans hx))) (fun e w2 h_ => ?_); obtain ⟨v, rfl, ho, hn'⟩ := h_; exact ⟨_, rfl, hn', (ho.base (X.trans hx).size)⟩
    with_reducible apply FromM.eq
    · intro w' hx; (try dsimp only [List.nil_append, List.cons_append, DepsL, DepsL1, setO, setN, favs, opsOf]); go_wp2; exact OpPostE.some _ rfl rfl (Ext.refl _) rfl
    with_reducible apply FromM.eq
    · intro w' hx; have h0x := hx.cell h0; have h1x := hx.cell h1; have h2x := hx.cell h2; have h3x := hx.cell h3; have h4x := hx.cell h4; have h5x := hx.cell h5; have d0x := hx.cell d0; have d1x := hx.cell d1; have d2x := hx.cell d2; (try dsimp only [List.nil_append, List.cons_append, DepsL, DepsL1, setO, setN, favs, opsOf]); go_wp2; exact OpPostE.some _ rfl rfl (Ext.refl _) rfl
    refine FromM.step (OwnF w.heap.size m) (OwnF.mono) ?_ ?_
    · intro w' hx; (try dsimp only [List.nil_append, List.cons_append, DepsL, DepsL1, setO, setN, favs, opsOf]); skip;
      refine op_call 16 [.tmp 55] _ _ _ rfl rfl rfl rfl rfl rfl (fun _ _ => Try.call16 _ _) (OCB.out _ _ _ (HB.out.ext (X.trans hx))) (fun e w2 h_ => ?_); obtain ⟨v, rfl, ho, hn'⟩ := h_; exact ⟨_, rfl, hn', (ho.base (X.trans hx).size)⟩
    with_reducible apply FromM.eq
    · intro w' hx; (try dsimp only [List.nil_append, List.cons_append, DepsL, DepsL1, setO, setN, favs, opsOf]); go_wp2; exact OpPostE.some _ rfl rfl (Ext.refl _) rfl
    with_reducible apply FromM.eq
    · intro w' hx; have h0x := hx.cell h0; have h1x := hx.cell h1; have h2x := hx.cell h2; have h3x := hx.cell h3; have h4x := hx.cell h4; have h5x := hx.cell h5; have d0x := hx.cell d0; have d1x := hx.cell d1; have d2x := hx.cell d2; (try dsimp only [List.nil_append, List.cons_append, DepsL, DepsL1, setO, setN, favs, opsOf]); go_wp2; exact OpPostE.some _ rfl rfl (Ext.refl _) rfl
    -- 10: t59
    with_reducible apply FromM.eq
    · intro w' hx; (try dsimp only [List.nil_append, List.cons_append, DepsL, DepsL1, setO, setN, favs, opsOf]); rintro v4 k4; rintro v7 k7; obtain ⟨a4, c4, rfl, _, _, r4⟩ := Own.form k4; obtain ⟨a7, c7, rfl, _, _, r7⟩ := Own.form k7; go_wp2_with (go_at_call 36; refine (CA.out _ _ _ _ _ r4 r7).mono ?_; rintro e w2 ⟨rfl, hb2⟩); exact OpPostE.some _ rfl rfl hb2 rfl
    with_reducible apply FromM.eq
    · intro w' hx; (try dsimp only [List.nil_append, List.cons_append, DepsL, DepsL1, setO, setN, favs, opsOf]); go_wp2; exact OpPostE.some _ rfl rfl (Ext.refl _) rfl
    with_reducible apply FromM.eq
    · intro w' hx; (try dsimp only [List.nil_append, List.cons_append, DepsL, DepsL1, setO, setN, favs, opsOf]); go_wp2; exact OpPostE.some _ rfl rfl (Ext.refl _) rfl
    with_reducible apply FromM.eq
    · intro w' hx; (try dsimp only [List.nil_append, List.cons_append, DepsL, DepsL1, setO, setN, favs, opsOf]); go_wp2; exact OpPostE.some _ rfl rfl (Ext.refl _) rfl
    with_reducible apply FromM.eq
    · intro w' hx; (try dsimp only [List.nil_append, List.cons_append, DepsL, DepsL1, setO, setN, favs, opsOf]); go_wp2; exact OpPostE.some _ rfl rfl (Ext.refl _) rfl
    with_reducible apply FromM.eq
    · intro w' hx; (try dsimp only [List.nil_append, List.cons_append, DepsL, DepsL1, setO, setN, favs, opsOf]); go_wp2; exact OpPostE.some _ rfl rfl (Ext.refl _) rfl
    with_reducible refine FromM.fin ?_
    intro w' hx
    (try dsimp only [List.nil_append, List.cons_append, EndL, DepsL1, setO, setN]); rintro v4 k4 v7 k7
    replace h0 := hx.cell h0
    replace h1 := hx.cell h1
    replace h2 := hx.cell h2
    replace h3 := hx.cell h3
    replace h4 := hx.cell h4
    replace h5 := hx.cell h5
    replace d0 := hx.cell d0
    replace d1 := hx.cell d1
    replace d2 := hx.cell d2
    replace X := X.trans hx
    clear hx k4 k7
    obtain ⟨wq, hwq⟩ : ∃ q : World, q = w' := ⟨_, rfl⟩
    subst hwq
    go_wp2_with fail
    refine (HRV.out _).mono ?_; rintro e w5 ⟨rfl, x⟩
    replace h0 := x.cell h0
    replace h1 := x.cell h1
    replace h2 := x.cell h2
    replace h3 := x.cell h3
    replace h4 := x.cell h4
    replace h5 := x.cell h5
    replace d0 := x.cell d0
    replace d1 := x.cell d1
    replace d2 := x.cell d2
    replace X := X.trans x
    clear x
    go_wp2_with fail
    refine (HRVC.out _).mono ?_; rintro e w6 ⟨rfl, x⟩
    replace h0 := x.cell h0
    replace h1 := x.cell h1
    replace h2 := x.cell h2
    replace h3 := x.cell h3
    replace h4 := x.cell h4
    replace h5 := x.cell h5
    replace d0 := x.cell d0
    replace d1 := x.cell d1
    replace d2 := x.cell d2
    replace X := X.trans x
    clear x
    go_wp2_with fail
    go_ret
    exact ⟨rfl, X⟩
  have t0 : decide (p ≤ 257) = true := decide_eq_true hp
  have t0' : decide ((p : Int) ≤ 257) = true := decide_eq_true (by omega)
  have t0'' : decide (257 < p) = false := decide_eq_false (by omega)
  have t03 : decide ((257 : Int) < (p : Int)) = false := decide_eq_false (by omega)
  obtain ⟨K, hK⟩ : ∃ K : Nat, K = k.toNat := ⟨_, rfl⟩
  have hkK : k = (K : Int) := by omega
  have HKK := Lib.hid hkK
  have TCC := fun w' => tiny_c p n K w' (by omega)
  rw [← hkK] at TCC
  cases htb : tinyB p n K
  case false =>
    rw [htb, ] at TCC
    have TC := Lib.hid TCC
    rw [hc] at RVC
    have HRVC := Lib.hid RVC
    clear TCC RVC hv hc htb hkK hK
    go_enter Try.func10, Try.ntmps10
    go_wp2_with fail
    refine (awake6_c _).mono ?_; rintro e w1 ⟨rfl, x0⟩
    replace h0 := x0.cell h0
    replace h1 := x0.cell h1
    replace h2 := x0.cell h2
    replace h3 := x0.cell h3
    replace h4 := x0.cell h4
    replace h5 := x0.cell h5
    have X := x0.box
    clear x0
    have q3 : (w1.alloc (.cells #[.int .u64 p, .int .i64 n, .int .i64 k] 24)).cell? ⟨w.heap.size, 3, none⟩ = some (.slice a l.length c) := ((Ext.refl w1).alloc _).cell h3
    have q4 : (w1.alloc (.cells #[.int .u64 p, .int .i64 n, .int .i64 k] 24)).cell? ⟨w.heap.size, 4, none⟩ = some (.slice b m.length f) := ((Ext.refl w1).alloc _).cell h4
    go_wp2_with fail
    refine (SC.out _ _ (by simp) (by simp)).mono ?_; rintro e w3 ⟨rfl, x⟩
    have d0 : w3.cell? ⟨w1.heap.size, 0, none⟩ = some (.int .u64 p) := x.box.cell (by simp)
    have d1 : w3.cell? ⟨w1.heap.size, 1, none⟩ = some (.int .i64 n) := x.box.cell (by simp)
    have d2 : w3.cell? ⟨w1.heap.size, 2, none⟩ = some (.int .i64 k) := x.box.cell (by simp)
    replace h0 := x.box.box.cell h0
    replace h1 := x.box.box.cell h1
    replace h2 := x.box.box.cell h2
    replace h3 := x.box.box.cell h3
    replace h4 := x.box.box.cell h4
    replace h5 := x.box.box.cell h5
    replace X := X.trans x.box.box
    clear x q3 q4
    go_wp2_with fail
    refine (HRVC.out _).mono ?_; rintro e w4 ⟨rfl, x⟩
    replace h0 := x.cell h0
    replace h1 := x.cell h1
    replace h2 := x.cell h2
    replace h3 := x.cell h3
    replace h4 := x.cell h4
    replace h5 := x.cell h5
    replace d0 := x.cell d0
    replace d1 := x.cell d1
    replace d2 := x.cell d2
    replace X := X.trans x
    clear x
    go_wp2_with fail
    refine (TC.out _).mono ?_; rintro e w5 ⟨rfl, x⟩
    replace h0 := x.cell h0
    replace h1 := x.cell h1
    replace h2 := x.cell h2
    replace h3 := x.cell h3
    replace h4 := x.cell h4
    replace h5 := x.cell h5
    replace d0 := x.cell d0
    replace d1 := x.cell d1
    replace d2 := x.cell d2
    replace X := X.trans x
    clear x
    go_wp2_with fail
    go_ret
    exact ⟨rfl, X⟩
  rw [htb] at TCC
  have TC := Lib.hid TCC
  clear TCC htb
  have hdiv : (n - k).tdiv 3 = (n - k) / 3 := Int.tdiv_eq_ediv_of_nonneg (by omega)
  by_cases hln : (l.length : Int) = n
  case neg =>
    have tn : ((l.length : Int) != n) = true := bne_iff_ne.2 hln
    clear hkK hK
    have hbad : ¬ (cval p n k = true ∧ p ≤ 257 ∧ (l.length : Int) = n ∧ (m.length : Int) = n ∧ 0 ≤ e ∧ e ≤ (n - k) / 3) := fun h => hln h.2.2.1
    have en : cLine p n k l m e = ([], 1) := by unfold cLine; rw [if_neg (by rw [hv]; simp), if_neg hbad]
    have ea : cApart p n k l m e = (0, 1) := by unfold cApart; rw [en, if_neg (by decide)]
    have CC : Hid (∀ w' (a b : Option Addr) (c d : Nat), Rd w' a l → Rd w' b m → Calls Try.prog 35 #[.agg #[.int .u64 p, .int .i64 n, .int .i64 k], .slice a l.length c, .slice b m.length d, .int .i64 e] w' fun e w'' => e = .returned (.tuple #[.int .i64 0, .int .i64 1]) ∧ Ext w' w'') := Lib.hid (fun w' a b c d h1 h2 => by have q := Close_c p n k l m e a b c d w' h1 h2 hn hn2; rw [en] at q; exact q)
    have CA : Hid (∀ w' (a b : Option Addr) (c d : Nat), Rd w' a l → Rd w' b m → Calls Try.prog 36 #[.agg #[.int .u64 p, .int .i64 n, .int .i64 k], .slice a l.length c, .slice b m.length d, .int .i64 e] w' fun e w'' => e = .returned (.tuple #[.int .i64 0, .int .i64 1]) ∧ Ext w' w'') := Lib.hid (fun w' a b c d h1 h2 => by have q := Apart_c p n k l m e a b c d w' h1 h2 hn hn2; rw [ea] at q; exact q)
    have HRVC := Lib.hid RVC
    clear RVC en ea hbad
    rw [hc] at HRVC
    clear hv hc
    go_enter Try.func10, Try.ntmps10
    go_wp2_with fail
    refine (awake6_c _).mono ?_; rintro e w1 ⟨rfl, x0⟩
    replace h0 := x0.cell h0
    replace h1 := x0.cell h1
    replace h2 := x0.cell h2
    replace h3 := x0.cell h3
    replace h4 := x0.cell h4
    replace h5 := x0.cell h5
    have X := x0.box
    clear x0
    have q3 : (w1.alloc (.cells #[.int .u64 p, .int .i64 n, .int .i64 k] 24)).cell? ⟨w.heap.size, 3, none⟩ = some (.slice a l.length c) := ((Ext.refl w1).alloc _).cell h3
    have q4 : (w1.alloc (.cells #[.int .u64 p, .int .i64 n, .int .i64 k] 24)).cell? ⟨w.heap.size, 4, none⟩ = some (.slice b m.length f) := ((Ext.refl w1).alloc _).cell h4
    go_wp2_with fail
    refine (SC.out _ _ (by simp) (by simp)).mono ?_; rintro e w3 ⟨rfl, x⟩
    have d0 : w3.cell? ⟨w1.heap.size, 0, none⟩ = some (.int .u64 p) := x.box.cell (by simp)
    have d1 : w3.cell? ⟨w1.heap.size, 1, none⟩ = some (.int .i64 n) := x.box.cell (by simp)
    have d2 : w3.cell? ⟨w1.heap.size, 2, none⟩ = some (.int .i64 k) := x.box.cell (by simp)
    replace h0 := x.box.box.cell h0
    replace h1 := x.box.box.cell h1
    replace h2 := x.box.box.cell h2
    replace h3 := x.box.box.cell h3
    replace h4 := x.box.box.cell h4
    replace h5 := x.box.box.cell h5
    replace X := X.trans x.box.box
    clear x q3 q4
    go_wp2_with fail
    refine (HRVC.out _).mono ?_; rintro e w4 ⟨rfl, x⟩
    replace h0 := x.cell h0
    replace h1 := x.cell h1
    replace h2 := x.cell h2
    replace h3 := x.cell h3
    replace h4 := x.cell h4
    replace h5 := x.cell h5
    replace d0 := x.cell d0
    replace d1 := x.cell d1
    replace d2 := x.cell d2
    replace X := X.trans x
    clear x
    go_wp2_with fail
    refine (TC.out _).mono ?_; rintro e w4b ⟨rfl, x⟩
    replace h0 := x.cell h0
    replace h1 := x.cell h1
    replace h2 := x.cell h2
    replace h3 := x.cell h3
    replace h4 := x.cell h4
    replace h5 := x.cell h5
    replace d0 := x.cell d0
    replace d1 := x.cell d1
    replace d2 := x.cell d2
    replace X := X.trans x
    clear x
    go_wp2_with fail
    refine region_factsL [[], [(0, 35)], [], [(2, 37)], [(3, 38)], [], [(5, 40)], [(6, 41)], [], [(8, 43)], [(1, 36), (4, 39), (7, 42), (9, 44)], [(10, 45)], [(11, 34)], [(11, 34)], [(12, 46)], [(13, 47)]] [some 35, some 36, some 37, some 38, some 39, some 40, some 41, some 42, some 43, some 44, some 45, some 34, some 46, some 47, some 4, some 5] [false, true, false, true, false, false, false, false, false, false, false, false, false, false, false, false, false, false, false, false, false, false, false, false, false, false, false, false, false, false, false, false, false, false, false, false, false, false, false, false, false, false, false, false, false, false, false, false, false, false, false, false, false, false, false, false, false, false, false, false, false, false, false, false, false, false, false, false, false, false, false, false, false, false, false, false, false, false, false, false, false, false, false, false, false, false, false, false, false, false, false, false, false, false, false, false, false, false, false, false, false, false, false, false, false, false, false, false, false, false, false, false, false, false, false, false, false, false, false, false, false, false, false, false, false, false, false, false, false, false, false, false, false, false, false, false, false, false, false, false, false, false, false, false, false, false, false, false, false, false, false, false, false, false, false, false, false, false, false, false, false, false, false, false, false, false] (by kernel_rfl) (by kernel_rfl) (by kernel_rfl) ?_
    dsimp only [maskL]
    with_reducible apply FromM.eq
    · intro w' hx; have h0x := hx.cell h0; have h1x := hx.cell h1; have h2x := hx.cell h2; have h3x := hx.cell h3; have h4x := hx.cell h4; have h5x := hx.cell h5; have d0x := hx.cell d0; have d1x := hx.cell d1; have d2x := hx.cell d2; (try dsimp only [List.nil_append, List.cons_append, DepsL, DepsL1, setO, setN, favs, opsOf]); go_wp2; exact OpPostE.some _ rfl rfl (Ext.refl _) rfl
    with_reducible apply FromM.eq
    · intro w' hx; (try dsimp only [List.nil_append, List.cons_append, DepsL, DepsL1, setO, setN, favs, opsOf]); refine op_call 15 [.tmp 35] _ _ _ rfl rfl rfl rfl rfl rfl (fun _ _ => Try.call15 _ _) (of_c p n k _) (fun e w2 h_ => ?_); obtain ⟨rfl, hb2⟩ := h_; exact ⟨_, rfl, hb2, rfl⟩
    with_reducible apply FromM.eq
    · intro w' hx; (try dsimp only [List.nil_append, List.cons_append, DepsL, DepsL1, setO, setN, favs, opsOf]); go_wp2; exact OpPostE.some _ rfl rfl (Ext.refl _) rfl
    with_reducible apply FromM.eq
    · intro w' hx; have h0x := hx.cell h0; have h1x := hx.cell h1; have h2x := hx.cell h2; have h3x := hx.cell h3; have h4x := hx.cell h4; have h5x := hx.cell h5; have d0x := hx.cell d0; have d1x := hx.cell d1; have d2x := hx.cell d2; (try dsimp only [List.nil_append, List.cons_append, DepsL, DepsL1, setO, setN, favs, opsOf]); go_wp2; exact OpPostE.some _ rfl rfl (Ext.refl _) rfl
    refine FromM.step (OwnF w.heap.size l) (OwnF.mono) ?_ ?_
    · intro w' hx; (try dsimp only [List.nil_append, List.cons_append, DepsL, DepsL1, setO, setN, favs, opsOf]); skip;
      refine op_call 16 [.tmp 38] _ _ _ rfl rfl rfl rfl rfl rfl (fun _ _ => Try.call16 _ _) (OCA.out _ _ _ (HA.out.ext (X.trans hx))) (fun e w2 h_ => ?_); obtain ⟨v, rfl, ho, hn'⟩ := h_; exact ⟨_, rfl, hn', (ho.base (X.trans hx).size)⟩
    with_reducible apply FromM.eq
    · intro w' hx; (try dsimp only [List.nil_append, List.cons_append, DepsL, DepsL1, setO, setN, favs, opsOf]); go_wp2; exact OpPostE.some _ rfl rfl (Ext.refl _) rfl
    with_reducible apply FromM.eq
    · intro w' hx; have h0x := hx.cell h0; have h1x := hx.cell h1; have h2x := hx.cell h2; have h3x := hx.cell h3; have h4x := hx.cell h4; have h5x := hx.cell h5; have d0x := hx.cell d0; have d1x := hx.cell d1; have d2x := hx.cell d2; (try dsimp only [List.nil_append, List.cons_append, DepsL, DepsL1, setO, setN, favs, opsOf]); go_wp2; exact OpPostE.some _ rfl rfl (Ext.refl _) rfl
    refine FromM.step (OwnF w.heap.size m) (OwnF.mono) ?_ ?_
    · intro w' hx; (try dsimp only [List.nil_append, List.cons_append, DepsL, DepsL1, setO, setN, favs, opsOf]); skip;
      refine op_call 16 [.tmp 41] _ _ _ rfl rfl rfl rfl rfl rfl (fun _ _ => Try.call16 _ _) (OCB.out _ _ _ (HB.out.ext (X.trans hx))) (fun e w2 h_ => ?_); obtain ⟨v, rfl, ho, hn'⟩ := h_; exact ⟨_, rfl, hn', (ho.base (X.trans hx).size)⟩
    with_reducible apply FromM.eq
    · intro w' hx; (try dsimp only [List.nil_append, List.cons_append, DepsL, DepsL1, setO, setN, favs, opsOf]); go_wp2; exact OpPostE.some _ rfl rfl (Ext.refl _) rfl
    with_reducible apply FromM.eq
    · intro w' hx; have h0x := hx.cell h0; have h1x := hx.cell h1; have h2x := hx.cell h2; have h3x := hx.cell h3; have h4x := hx.cell h4; have h5x := hx.cell h5; have d0x := hx.cell d0; have d1x := hx.cell d1; have d2x := hx.cell d2; (try dsimp only [List.nil_append, List.cons_append, DepsL, DepsL1, setO, setN, favs, opsOf]); go_wp2; exact OpPostE.some _ rfl rfl (Ext.refl _) rfl
    -- 10: t45
    with_reducible apply FromM.eq
    · intro w' hx; (try dsimp only [List.nil_append, List.cons_append, DepsL, DepsL1, setO, setN, favs, opsOf]); rintro v4 k4; rintro v7 k7; obtain ⟨a4, c4, rfl, _, _, r4⟩ := Own.form k4; obtain ⟨a7, c7, rfl, _, _, r7⟩ := Own.form k7; go_wp2_with (go_at_call 35; refine (CC.out _ _ _ _ _ r4 r7).mono ?_; rintro e w2 ⟨rfl, hb2⟩); exact OpPostE.some _ rfl rfl hb2 rfl
    with_reducible apply FromM.eq
    · intro w' hx; (try dsimp only [List.nil_append, List.cons_append, DepsL, DepsL1, setO, setN, favs, opsOf]); go_wp2; exact OpPostE.some _ rfl rfl (Ext.refl _) rfl
    with_reducible apply FromM.eq
    · intro w' hx; (try dsimp only [List.nil_append, List.cons_append, DepsL, DepsL1, setO, setN, favs, opsOf]); go_wp2; exact OpPostE.some _ rfl rfl (Ext.refl _) rfl
    with_reducible apply FromM.eq
    · intro w' hx; (try dsimp only [List.nil_append, List.cons_append, DepsL, DepsL1, setO, setN, favs, opsOf]); go_wp2; exact OpPostE.some _ rfl rfl (Ext.refl _) rfl
    with_reducible apply FromM.eq
    · intro w' hx; (try dsimp only [List.nil_append, List.cons_append, DepsL, DepsL1, setO, setN, favs, opsOf]); go_wp2; exact OpPostE.some _ rfl rfl (Ext.refl _) rfl
    with_reducible apply FromM.eq
    · intro w' hx; (try dsimp only [List.nil_append, List.cons_append, DepsL, DepsL1, setO, setN, favs, opsOf]); go_wp2; exact OpPostE.some _ rfl rfl (Ext.refl _) rfl
    with_reducible refine FromM.fin ?_
    intro w' hx
    (try dsimp only [List.nil_append, List.cons_append, EndL, DepsL1, setO, setN]); rintro v4 k4 v7 k7
    replace h0 := hx.cell h0
    replace h1 := hx.cell h1
    replace h2 := hx.cell h2
    replace h3 := hx.cell h3
    replace h4 := hx.cell h4
    replace h5 := hx.cell h5
    replace d0 := hx.cell d0
    replace d1 := hx.cell d1
    replace d2 := hx.cell d2
    replace X := X.trans hx
    clear hx k4 k7
    obtain ⟨wq, hwq⟩ : ∃ q : World, q = w' := ⟨_, rfl⟩
    subst hwq
    go_wp2_with fail
    refine region_factsL [[], [(0, 49)], [], [(2, 51)], [(3, 52)], [], [(5, 54)], [(6, 55)], [], [(8, 57)], [(1, 50), (4, 53), (7, 56), (9, 58)], [(10, 59)], [(11, 48)], [(11, 48)], [(12, 60)], [(13, 61)]] [some 49, some 50, some 51, some 52, some 53, some 54, some 55, some 56, some 57, some 58, some 59, some 48, some 60, some 61, some 6, some 7] [false, true, false, true, false, false, false, false, false, false, false, false, false, false, false, false, false, false, false, false, false, false, false, false, false, false, false, false, false, false, false, false, false, false, false, false, false, false, false, false, false, false, false, false, false, false, false, false, false, false, false, false, false, false, false, false, false, false, false, false, false, false, false, false, false, false, false, false, false, false, false, false, false, false, false, false, false, false, false, false, false, false, false, false, false, false, false, false, false, false, false, false, false, false, false, false, false, false, false, false, false, false, false, false, false, false, false, false, false, false, false, false, false, false, false, false, false, false, false, false, false, false, false, false, false, false, false, false, false, false, false, false, false, false, false, false, false, false, false, false, false, false, false, false, false, false, false, false, false, false, false, false, false, false, false, false, false, false, false, false, false, false, false, false, false, false] (by kernel_rfl) (by kernel_rfl) (by kernel_rfl) ?_
    dsimp only [maskL]
    with_reducible apply FromM.eq
    · intro w' hx; have h0x := hx.cell h0; have h1x := hx.cell h1; have h2x := hx.cell h2; have h3x := hx.cell h3; have h4x := hx.cell h4; have h5x := hx.cell h5; have d0x := hx.cell d0; have d1x := hx.cell d1; have d2x := hx.cell d2; (try dsimp only [List.nil_append, List.cons_append, DepsL, DepsL1, setO, setN, favs, opsOf]); go_wp2; exact OpPostE.some _ rfl rfl (Ext.refl _) rfl
    with_reducible apply FromM.eq
    · intro w' hx; (try dsimp only [List.nil_append, List.cons_append, DepsL, DepsL1, setO, setN, favs, opsOf]); refine op_call 15 [.tmp 49] _ _ _ rfl rfl rfl rfl rfl rfl (fun _ _ => Try.call15 _ _) (of_c p n k _) (fun e w2 h_ => ?_); obtain ⟨rfl, hb2⟩ := h_; exact ⟨_, rfl, hb2, rfl⟩
    with_reducible apply FromM.eq
    · intro w' hx; (try dsimp only [List.nil_append, List.cons_append, DepsL, DepsL1, setO, setN, favs, opsOf]); go_wp2; exact OpPostE.some _ rfl rfl (Ext.refl _) rfl
    with_reducible apply FromM.eq
    · intro w' hx; have h0x := hx.cell h0; have h1x := hx.cell h1; have h2x := hx.cell h2; have h3x := hx.cell h3; have h4x := hx.cell h4; have h5x := hx.cell h5; have d0x := hx.cell d0; have d1x := hx.cell d1; have d2x := hx.cell d2; (try dsimp only [List.nil_append, List.cons_append, DepsL, DepsL1, setO, setN, favs, opsOf]); go_wp2; exact OpPostE.some _ rfl rfl (Ext.refl _) rfl
    refine FromM.step (OwnF w.heap.size l) (OwnF.mono) ?_ ?_
    · intro w' hx; (try dsimp only [List.nil_append, List.cons_append, DepsL, DepsL1, setO, setN, favs, opsOf]); skip;
      refine op_call 16 [.tmp 52] _ _ _ rfl rfl rfl rfl rfl rfl (fun _ _ => Try.call16 _ _) (OCA.out _ _ _ (HA.out.ext (X.trans hx))) (fun e w2 h_ => ?_); obtain ⟨v, rfl, ho, hn'⟩ := h_; exact ⟨_, rfl, hn', (ho.base (X.trans hx).size)⟩
    with_reducible apply FromM.eq
    · intro w' hx; (try dsimp only [List.nil_append, List.cons_append, DepsL, DepsL1, setO, setN, favs, opsOf]); go_wp2; exact OpPostE.some _ rfl rfl (Ext.refl _) rfl
    with_reducible apply FromM.eq
    · intro w' hx; have h0x := hx.cell h0; have h1x := hx.cell h1; have h2x := hx.cell h2; have h3x := hx.cell h3; have h4x := hx.cell h4; have h5x := hx.cell h5; have d0x := hx.cell d0; have d1x := hx.cell d1; have d2x := hx.cell d2; (try dsimp only [List.nil_append, List.cons_append, DepsL, DepsL1, setO, setN, favs, opsOf]); go_wp2; exact OpPostE.some _ rfl rfl (Ext.refl _) rfl
    refine FromM.step (OwnF w.heap.size m) (OwnF.mono) ?_ ?_
    · intro w' hx; (try dsimp only [List.nil_append, List.cons_append, DepsL, DepsL1, setO, setN, favs, opsOf]); skip;
      refine op_call 16 [.tmp 55] _ _ _ rfl rfl rfl rfl rfl rfl (fun _ _ => Try.call16 _ _) (OCB.out _ _ _ (HB.out.ext (X.trans hx))) (fun e w2 h_ => ?_); obtain ⟨v, rfl, ho, hn'⟩ := h_; exact ⟨_, rfl, hn', (ho.base (X.trans hx).size)⟩
    with_reducible apply FromM.eq
    · intro w' hx; (try dsimp only [List.nil_append, List.cons_append, DepsL, DepsL1, setO, setN, favs, opsOf]); go_wp2; exact OpPostE.some _ rfl rfl (Ext.refl _) rfl
    with_reducible apply FromM.eq
    · intro w' hx; have h0x := hx.cell h0; have h1x := hx.cell h1; have h2x := hx.cell h2; have h3x := hx.cell h3; have h4x := hx.cell h4; have h5x := hx.cell h5; have d0x := hx.cell d0; have d1x := hx.cell d1; have d2x := hx.cell d2; (try dsimp only [List.nil_append, List.cons_append, DepsL, DepsL1, setO, setN, favs, opsOf]); go_wp2; exact OpPostE.some _ rfl rfl (Ext.refl _) rfl
    -- 10: t59
    with_reducible apply FromM.eq
    · intro w' hx; (try dsimp only [List.nil_append, List.cons_append, DepsL, DepsL1, setO, setN, favs, opsOf]); rintro v4 k4; rintro v7 k7; obtain ⟨a4, c4, rfl, _, _, r4⟩ := Own.form k4; obtain ⟨a7, c7, rfl, _, _, r7⟩ := Own.form k7; go_wp2_with (go_at_call 36; refine (CA.out _ _ _ _ _ r4 r7).mono ?_; rintro e w2 ⟨rfl, hb2⟩); exact OpPostE.some _ rfl rfl hb2 rfl
    with_reducible apply FromM.eq
    · intro w' hx; (try dsimp only [List.nil_append, List.cons_append, DepsL, DepsL1, setO, setN, favs, opsOf]); go_wp2; exact OpPostE.some _ rfl rfl (Ext.refl _) rfl
    with_reducible apply FromM.eq
    · intro w' hx; (try dsimp only [List.nil_append, List.cons_append, DepsL, DepsL1, setO, setN, favs, opsOf]); go_wp2; exact OpPostE.some _ rfl rfl (Ext.refl _) rfl
    with_reducible apply FromM.eq
    · intro w' hx; (try dsimp only [List.nil_append, List.cons_append, DepsL, DepsL1, setO, setN, favs, opsOf]); go_wp2; exact OpPostE.some _ rfl rfl (Ext.refl _) rfl
    with_reducible apply FromM.eq
    · intro w' hx; (try dsimp only [List.nil_append, List.cons_append, DepsL, DepsL1, setO, setN, favs, opsOf]); go_wp2; exact OpPostE.some _ rfl rfl (Ext.refl _) rfl
    with_reducible apply FromM.eq
    · intro w' hx; (try dsimp only [List.nil_append, List.cons_append, DepsL, DepsL1, setO, setN, favs, opsOf]); go_wp2; exact OpPostE.some _ rfl rfl (Ext.refl _) rfl
    with_reducible refine FromM.fin ?_
    intro w' hx
    (try dsimp only [List.nil_append, List.cons_append, EndL, DepsL1, setO, setN]); rintro v4 k4 v7 k7
    replace h0 := hx.cell h0
    replace h1 := hx.cell h1
    replace h2 := hx.cell h2
    replace h3 := hx.cell h3
    replace h4 := hx.cell h4
    replace h5 := hx.cell h5
    replace d0 := hx.cell d0
    replace d1 := hx.cell d1
    replace d2 := hx.cell d2
    replace X := X.trans hx
    clear hx k4 k7
    obtain ⟨wq, hwq⟩ : ∃ q : World, q = w' := ⟨_, rfl⟩
    subst hwq
    go_wp2_with fail
    refine (HRV.out _).mono ?_; rintro e w5 ⟨rfl, x⟩
    replace h0 := x.cell h0
    replace h1 := x.cell h1
    replace h2 := x.cell h2
    replace h3 := x.cell h3
    replace h4 := x.cell h4
    replace h5 := x.cell h5
    replace d0 := x.cell d0
    replace d1 := x.cell d1
    replace d2 := x.cell d2
    replace X := X.trans x
    clear x
    go_wp2_with fail
    refine (HRVC.out _).mono ?_; rintro e w6 ⟨rfl, x⟩
    replace h0 := x.cell h0
    replace h1 := x.cell h1
    replace h2 := x.cell h2
    replace h3 := x.cell h3
    replace h4 := x.cell h4
    replace h5 := x.cell h5
    replace d0 := x.cell d0
    replace d1 := x.cell d1
    replace d2 := x.cell d2
    replace X := X.trans x
    clear x
    go_wp2_with fail
    go_ret
    exact ⟨rfl, X⟩
  have tn : ((l.length : Int) != n) = false := bne_eq_false_iff_eq.2 hln
  have HLN := Lib.hid hln
  by_cases hmn : (m.length : Int) = n
  case neg =>
    have tm : ((m.length : Int) != n) = true := bne_iff_ne.2 hmn
    clear hkK hK hln
    have hbad : ¬ (cval p n k = true ∧ p ≤ 257 ∧ (l.length : Int) = n ∧ (m.length : Int) = n ∧ 0 ≤ e ∧ e ≤ (n - k) / 3) := fun h => hmn h.2.2.2.1
    have en : cLine p n k l m e = ([], 1) := by unfold cLine; rw [if_neg (by rw [hv]; simp), if_neg hbad]
    have ea : cApart p n k l m e = (0, 1) := by unfold cApart; rw [en, if_neg (by decide)]
    have CC : Hid (∀ w' (a b : Option Addr) (c d : Nat), Rd w' a l → Rd w' b m → Calls Try.prog 35 #[.agg #[.int .u64 p, .int .i64 n, .int .i64 k], .slice a l.length c, .slice b m.length d, .int .i64 e] w' fun e w'' => e = .returned (.tuple #[.int .i64 0, .int .i64 1]) ∧ Ext w' w'') := Lib.hid (fun w' a b c d h1 h2 => by have q := Close_c p n k l m e a b c d w' h1 h2 hn hn2; rw [en] at q; exact q)
    have CA : Hid (∀ w' (a b : Option Addr) (c d : Nat), Rd w' a l → Rd w' b m → Calls Try.prog 36 #[.agg #[.int .u64 p, .int .i64 n, .int .i64 k], .slice a l.length c, .slice b m.length d, .int .i64 e] w' fun e w'' => e = .returned (.tuple #[.int .i64 0, .int .i64 1]) ∧ Ext w' w'') := Lib.hid (fun w' a b c d h1 h2 => by have q := Apart_c p n k l m e a b c d w' h1 h2 hn hn2; rw [ea] at q; exact q)
    have HRVC := Lib.hid RVC
    clear RVC en ea hbad
    rw [hc] at HRVC
    clear hv hc
    go_enter Try.func10, Try.ntmps10
    go_wp2_with fail
    refine (awake6_c _).mono ?_; rintro e w1 ⟨rfl, x0⟩
    replace h0 := x0.cell h0
    replace h1 := x0.cell h1
    replace h2 := x0.cell h2
    replace h3 := x0.cell h3
    replace h4 := x0.cell h4
    replace h5 := x0.cell h5
    have X := x0.box
    clear x0
    have q3 : (w1.alloc (.cells #[.int .u64 p, .int .i64 n, .int .i64 k] 24)).cell? ⟨w.heap.size, 3, none⟩ = some (.slice a l.length c) := ((Ext.refl w1).alloc _).cell h3
    have q4 : (w1.alloc (.cells #[.int .u64 p, .int .i64 n, .int .i64 k] 24)).cell? ⟨w.heap.size, 4, none⟩ = some (.slice b m.length f) := ((Ext.refl w1).alloc _).cell h4
    go_wp2_with fail
    refine (SC.out _ _ (by simp) (by simp)).mono ?_; rintro e w3 ⟨rfl, x⟩
    have d0 : w3.cell? ⟨w1.heap.size, 0, none⟩ = some (.int .u64 p) := x.box.cell (by simp)
    have d1 : w3.cell? ⟨w1.heap.size, 1, none⟩ = some (.int .i64 n) := x.box.cell (by simp)
    have d2 : w3.cell? ⟨w1.heap.size, 2, none⟩ = some (.int .i64 k) := x.box.cell (by simp)
    replace h0 := x.box.box.cell h0
    replace h1 := x.box.box.cell h1
    replace h2 := x.box.box.cell h2
    replace h3 := x.box.box.cell h3
    replace h4 := x.box.box.cell h4
    replace h5 := x.box.box.cell h5
    replace X := X.trans x.box.box
    clear x q3 q4
    go_wp2_with fail
    refine (HRVC.out _).mono ?_; rintro e w4 ⟨rfl, x⟩
    replace h0 := x.cell h0
    replace h1 := x.cell h1
    replace h2 := x.cell h2
    replace h3 := x.cell h3
    replace h4 := x.cell h4
    replace h5 := x.cell h5
    replace d0 := x.cell d0
    replace d1 := x.cell d1
    replace d2 := x.cell d2
    replace X := X.trans x
    clear x
    go_wp2_with fail
    refine (TC.out _).mono ?_; rintro e w4b ⟨rfl, x⟩
    replace h0 := x.cell h0
    replace h1 := x.cell h1
    replace h2 := x.cell h2
    replace h3 := x.cell h3
    replace h4 := x.cell h4
    replace h5 := x.cell h5
    replace d0 := x.cell d0
    replace d1 := x.cell d1
    replace d2 := x.cell d2
    replace X := X.trans x
    clear x
    go_wp2_with fail
    refine region_factsL [[], [(0, 35)], [], [(2, 37)], [(3, 38)], [], [(5, 40)], [(6, 41)], [], [(8, 43)], [(1, 36), (4, 39), (7, 42), (9, 44)], [(10, 45)], [(11, 34)], [(11, 34)], [(12, 46)], [(13, 47)]] [some 35, some 36, some 37, some 38, some 39, some 40, some 41, some 42, some 43, some 44, some 45, some 34, some 46, some 47, some 4, some 5] [false, true, false, true, false, false, false, false, false, false, false, false, false, false, false, false, false, false, false, false, false, false, false, false, false, false, false, false, false, false, false, false, false, false, false, false, false, false, false, false, false, false, false, false, false, false, false, false, false, false, false, false, false, false, false, false, false, false, false, false, false, false, false, false, false, false, false, false, false, false, false, false, false, false, false, false, false, false, false, false, false, false, false, false, false, false, false, false, false, false, false, false, false, false, false, false, false, false, false, false, false, false, false, false, false, false, false, false, false, false, false, false, false, false, false, false, false, false, false, false, false, false, false, false, false, false, false, false, false, false, false, false, false, false, false, false, false, false, false, false, false, false, false, false, false, false, false, false, false, false, false, false, false, false, false, false, false, false, false, false, false, false, false, false, false, false] (by kernel_rfl) (by kernel_rfl) (by kernel_rfl) ?_
    dsimp only [maskL]
    with_reducible apply FromM.eq
    · intro w' hx; have h0x := hx.cell h0; have h1x := hx.cell h1; have h2x := hx.cell h2; have h3x := hx.cell h3; have h4x := hx.cell h4; have h5x := hx.cell h5; have d0x := hx.cell d0; have d1x := hx.cell d1; have d2x := hx.cell d2; (try dsimp only [List.nil_append, List.cons_append, DepsL, DepsL1, setO, setN, favs, opsOf]); go_wp2; exact OpPostE.some _ rfl rfl (Ext.refl _) rfl
    with_reducible apply FromM.eq
    · intro w' hx; (try dsimp only [List.nil_append, List.cons_append, DepsL, DepsL1, setO, setN, favs, opsOf]); refine op_call 15 [.tmp 35] _ _ _ rfl rfl rfl rfl rfl rfl (fun _ _ => Try.call15 _ _) (of_c p n k _) (fun e w2 h_ => ?_); obtain ⟨rfl, hb2⟩ := h_; exact ⟨_, rfl, hb2, rfl⟩
    with_reducible apply FromM.eq
    · intro w' hx; (try dsimp only [List.nil_append, List.cons_append, DepsL, DepsL1, setO, setN, favs, opsOf]); go_wp2; exact OpPostE.some _ rfl rfl (Ext.refl _) rfl
    with_reducible apply FromM.eq
    · intro w' hx; have h0x := hx.cell h0; have h1x := hx.cell h1; have h2x := hx.cell h2; have h3x := hx.cell h3; have h4x := hx.cell h4; have h5x := hx.cell h5; have d0x := hx.cell d0; have d1x := hx.cell d1; have d2x := hx.cell d2; (try dsimp only [List.nil_append, List.cons_append, DepsL, DepsL1, setO, setN, favs, opsOf]); go_wp2; exact OpPostE.some _ rfl rfl (Ext.refl _) rfl
    refine FromM.step (OwnF w.heap.size l) (OwnF.mono) ?_ ?_
    · intro w' hx; (try dsimp only [List.nil_append, List.cons_append, DepsL, DepsL1, setO, setN, favs, opsOf]); skip;
      refine op_call 16 [.tmp 38] _ _ _ rfl rfl rfl rfl rfl rfl (fun _ _ => Try.call16 _ _) (OCA.out _ _ _ (HA.out.ext (X.trans hx))) (fun e w2 h_ => ?_); obtain ⟨v, rfl, ho, hn'⟩ := h_; exact ⟨_, rfl, hn', (ho.base (X.trans hx).size)⟩
    with_reducible apply FromM.eq
    · intro w' hx; (try dsimp only [List.nil_append, List.cons_append, DepsL, DepsL1, setO, setN, favs, opsOf]); go_wp2; exact OpPostE.some _ rfl rfl (Ext.refl _) rfl
    with_reducible apply FromM.eq
    · intro w' hx; have h0x := hx.cell h0; have h1x := hx.cell h1; have h2x := hx.cell h2; have h3x := hx.cell h3; have h4x := hx.cell h4; have h5x := hx.cell h5; have d0x := hx.cell d0; have d1x := hx.cell d1; have d2x := hx.cell d2; (try dsimp only [List.nil_append, List.cons_append, DepsL, DepsL1, setO, setN, favs, opsOf]); go_wp2; exact OpPostE.some _ rfl rfl (Ext.refl _) rfl
    refine FromM.step (OwnF w.heap.size m) (OwnF.mono) ?_ ?_
    · intro w' hx; (try dsimp only [List.nil_append, List.cons_append, DepsL, DepsL1, setO, setN, favs, opsOf]); skip;
      refine op_call 16 [.tmp 41] _ _ _ rfl rfl rfl rfl rfl rfl (fun _ _ => Try.call16 _ _) (OCB.out _ _ _ (HB.out.ext (X.trans hx))) (fun e w2 h_ => ?_); obtain ⟨v, rfl, ho, hn'⟩ := h_; exact ⟨_, rfl, hn', (ho.base (X.trans hx).size)⟩
    with_reducible apply FromM.eq
    · intro w' hx; (try dsimp only [List.nil_append, List.cons_append, DepsL, DepsL1, setO, setN, favs, opsOf]); go_wp2; exact OpPostE.some _ rfl rfl (Ext.refl _) rfl
    with_reducible apply FromM.eq
    · intro w' hx; have h0x := hx.cell h0; have h1x := hx.cell h1; have h2x := hx.cell h2; have h3x := hx.cell h3; have h4x := hx.cell h4; have h5x := hx.cell h5; have d0x := hx.cell d0; have d1x := hx.cell d1; have d2x := hx.cell d2; (try dsimp only [List.nil_append, List.cons_append, DepsL, DepsL1, setO, setN, favs, opsOf]); go_wp2; exact OpPostE.some _ rfl rfl (Ext.refl _) rfl
    -- 10: t45
    with_reducible apply FromM.eq
    · intro w' hx; (try dsimp only [List.nil_append, List.cons_append, DepsL, DepsL1, setO, setN, favs, opsOf]); rintro v4 k4; rintro v7 k7; obtain ⟨a4, c4, rfl, _, _, r4⟩ := Own.form k4; obtain ⟨a7, c7, rfl, _, _, r7⟩ := Own.form k7; go_wp2_with (go_at_call 35; refine (CC.out _ _ _ _ _ r4 r7).mono ?_; rintro e w2 ⟨rfl, hb2⟩); exact OpPostE.some _ rfl rfl hb2 rfl
    with_reducible apply FromM.eq
    · intro w' hx; (try dsimp only [List.nil_append, List.cons_append, DepsL, DepsL1, setO, setN, favs, opsOf]); go_wp2; exact OpPostE.some _ rfl rfl (Ext.refl _) rfl
    with_reducible apply FromM.eq
    · intro w' hx; (try dsimp only [List.nil_append, List.cons_append, DepsL, DepsL1, setO, setN, favs, opsOf]); go_wp2; exact OpPostE.some _ rfl rfl (Ext.refl _) rfl
    with_reducible apply FromM.eq
    · intro w' hx; (try dsimp only [List.nil_append, List.cons_append, DepsL, DepsL1, setO, setN, favs, opsOf]); go_wp2; exact OpPostE.some _ rfl rfl (Ext.refl _) rfl
    with_reducible apply FromM.eq
    · intro w' hx; (try dsimp only [List.nil_append, List.cons_append, DepsL, DepsL1, setO, setN, favs, opsOf]); go_wp2; exact OpPostE.some _ rfl rfl (Ext.refl _) rfl
    with_reducible apply FromM.eq
    · intro w' hx; (try dsimp only [List.nil_append, List.cons_append, DepsL, DepsL1, setO, setN, favs, opsOf]); go_wp2; exact OpPostE.some _ rfl rfl (Ext.refl _) rfl
    with_reducible refine FromM.fin ?_
    intro w' hx
    (try dsimp only [List.nil_append, List.cons_append, EndL, DepsL1, setO, setN]); rintro v4 k4 v7 k7
    replace h0 := hx.cell h0
    replace h1 := hx.cell h1
    replace h2 := hx.cell h2
    replace h3 := hx.cell h3
    replace h4 := hx.cell h4
    replace h5 := hx.cell h5
    replace d0 := hx.cell d0
    replace d1 := hx.cell d1
    replace d2 := hx.cell d2
    replace X := X.trans hx
    clear hx k4 k7
    obtain ⟨wq, hwq⟩ : ∃ q : World, q = w' := ⟨_, rfl⟩
    subst hwq
    go_wp2_with fail
    refine region_factsL [[], [(0, 49)], [], [(2, 51)], [(3, 52)], [], [(5, 54)], [(6, 55)], [], [(8, 57)], [(1, 50), (4, 53), (7, 56), (9, 58)], [(10, 59)], [(11, 48)], [(11, 48)], [(12, 60)], [(13, 61)]] [some 49, some 50, some 51, some 52, some 53, some 54, some 55, some 56, some 57, some 58, some 59, some 48, some 60, some 61, some 6, some 7] [false, true, false, true, false, false, false, false, false, false, false, false, false, false, false, false, false, false, false, false, false, false, false, false, false, false, false, false, false, false, false, false, false, false, false, false, false, false, false, false, false, false, false, false, false, false, false, false, false, false, false, false, false, false, false, false, false, false, false, false, false, false, false, false, false, false, false, false, false, false, false, false, false, false, false, false, false, false, false, false, false, false, false, false, false, false, false, false, false, false, false, false, false, false, false, false, false, false, false, false, false, false, false, false, false, false, false, false, false, false, false, false, false, false, false, false, false, false, false, false, false, false, false, false, false, false, false, false, false, false, false, false, false, false, false, false, false, false, false, false, false, false, false, false, false, false, false, false, false, false, false, false, false, false, false, false, false, false, false, false, false, false, false, false, false, false] (by kernel_rfl) (by kernel_rfl) (by kernel_rfl) ?_
    dsimp only [maskL]
    with_reducible apply FromM.eq
    · intro w' hx; have h0x := hx.cell h0; have h1x := hx.cell h1; have h2x := hx.cell h2; have h3x := hx.cell h3; have h4x := hx.cell h4; have h5x := hx.cell h5; have d0x := hx.cell d0; have d1x := hx.cell d1; have d2x := hx.cell d2; (try dsimp only [List.nil_append, List.cons_append, DepsL, DepsL1, setO, setN, favs, opsOf]); go_wp2; exact OpPostE.some _ rfl rfl (Ext.refl _) rfl
    with_reducible apply FromM.eq
    · intro w' hx; (try dsimp only [List.nil_append, List.cons_append, DepsL, DepsL1, setO, setN, favs, opsOf]); refine op_call 15 [.tmp 49] _ _ _ rfl rfl rfl rfl rfl rfl (fun _ _ => Try.call15 _ _) (of_c p n k _) (fun e w2 h_ => ?_); obtain ⟨rfl, hb2⟩ := h_; exact ⟨_, rfl, hb2, rfl⟩
    with_reducible apply FromM.eq
    · intro w' hx; (try dsimp only [List.nil_append, List.cons_append, DepsL, DepsL1, setO, setN, favs, opsOf]); go_wp2; exact OpPostE.some _ rfl rfl (Ext.refl _) rfl
    with_reducible apply FromM.eq
    · intro w' hx; have h0x := hx.cell h0; have h1x := hx.cell h1; have h2x := hx.cell h2; have h3x := hx.cell h3; have h4x := hx.cell h4; have h5x := hx.cell h5; have d0x := hx.cell d0; have d1x := hx.cell d1; have d2x := hx.cell d2; (try dsimp only [List.nil_append, List.cons_append, DepsL, DepsL1, setO, setN, favs, opsOf]); go_wp2; exact OpPostE.some _ rfl rfl (Ext.refl _) rfl
    refine FromM.step (OwnF w.heap.size l) (OwnF.mono) ?_ ?_
    · intro w' hx; (try dsimp only [List.nil_append, List.cons_append, DepsL, DepsL1, setO, setN, favs, opsOf]); skip;
      refine op_call 16 [.tmp 52] _ _ _ rfl rfl rfl rfl rfl rfl (fun _ _ => Try.call16 _ _) (OCA.out _ _ _ (HA.out.ext (X.trans hx))) (fun e w2 h_ => ?_); obtain ⟨v, rfl, ho, hn'⟩ := h_; exact ⟨_, rfl, hn', (ho.base (X.trans hx).size)⟩
    with_reducible apply FromM.eq
    · intro w' hx; (try dsimp only [List.nil_append, List.cons_append, DepsL, DepsL1, setO, setN, favs, opsOf]); go_wp2; exact OpPostE.some _ rfl rfl (Ext.refl _) rfl
    with_reducible apply FromM.eq
    · intro w' hx; have h0x := hx.cell h0; have h1x := hx.cell h1; have h2x := hx.cell h2; have h3x := hx.cell h3; have h4x := hx.cell h4; have h5x := hx.cell h5; have d0x := hx.cell d0; have d1x := hx.cell d1; have d2x := hx.cell d2; (try dsimp only [List.nil_append, List.cons_append, DepsL, DepsL1, setO, setN, favs, opsOf]); go_wp2; exact OpPostE.some _ rfl rfl (Ext.refl _) rfl
    refine FromM.step (OwnF w.heap.size m) (OwnF.mono) ?_ ?_
    · intro w' hx; (try dsimp only [List.nil_append, List.cons_append, DepsL, DepsL1, setO, setN, favs, opsOf]); skip;
      refine op_call 16 [.tmp 55] _ _ _ rfl rfl rfl rfl rfl rfl (fun _ _ => Try.call16 _ _) (OCB.out _ _ _ (HB.out.ext (X.trans hx))) (fun e w2 h_ => ?_); obtain ⟨v, rfl, ho, hn'⟩ := h_; exact ⟨_, rfl, hn', (ho.base (X.trans hx).size)⟩
    with_reducible apply FromM.eq
    · intro w' hx; (try dsimp only [List.nil_append, List.cons_append, DepsL, DepsL1, setO, setN, favs, opsOf]); go_wp2; exact OpPostE.some _ rfl rfl (Ext.refl _) rfl
    with_reducible apply FromM.eq
    · intro w' hx; have h0x := hx.cell h0; have h1x := hx.cell h1; have h2x := hx.cell h2; have h3x := hx.cell h3; have h4x := hx.cell h4; have h5x := hx.cell h5; have d0x := hx.cell d0; have d1x := hx.cell d1; have d2x := hx.cell d2; (try dsimp only [List.nil_append, List.cons_append, DepsL, DepsL1, setO, setN, favs, opsOf]); go_wp2; exact OpPostE.some _ rfl rfl (Ext.refl _) rfl
    -- 10: t59
    with_reducible apply FromM.eq
    · intro w' hx; (try dsimp only [List.nil_append, List.cons_append, DepsL, DepsL1, setO, setN, favs, opsOf]); rintro v4 k4; rintro v7 k7; obtain ⟨a4, c4, rfl, _, _, r4⟩ := Own.form k4; obtain ⟨a7, c7, rfl, _, _, r7⟩ := Own.form k7; go_wp2_with (go_at_call 36; refine (CA.out _ _ _ _ _ r4 r7).mono ?_; rintro e w2 ⟨rfl, hb2⟩); exact OpPostE.some _ rfl rfl hb2 rfl
    with_reducible apply FromM.eq
    · intro w' hx; (try dsimp only [List.nil_append, List.cons_append, DepsL, DepsL1, setO, setN, favs, opsOf]); go_wp2; exact OpPostE.some _ rfl rfl (Ext.refl _) rfl
    with_reducible apply FromM.eq
    · intro w' hx; (try dsimp only [List.nil_append, List.cons_append, DepsL, DepsL1, setO, setN, favs, opsOf]); go_wp2; exact OpPostE.some _ rfl rfl (Ext.refl _) rfl
    with_reducible apply FromM.eq
    · intro w' hx; (try dsimp only [List.nil_append, List.cons_append, DepsL, DepsL1, setO, setN, favs, opsOf]); go_wp2; exact OpPostE.some _ rfl rfl (Ext.refl _) rfl
    with_reducible apply FromM.eq
    · intro w' hx; (try dsimp only [List.nil_append, List.cons_append, DepsL, DepsL1, setO, setN, favs, opsOf]); go_wp2; exact OpPostE.some _ rfl rfl (Ext.refl _) rfl
    with_reducible apply FromM.eq
    · intro w' hx; (try dsimp only [List.nil_append, List.cons_append, DepsL, DepsL1, setO, setN, favs, opsOf]); go_wp2; exact OpPostE.some _ rfl rfl (Ext.refl _) rfl
    with_reducible refine FromM.fin ?_
    intro w' hx
    (try dsimp only [List.nil_append, List.cons_append, EndL, DepsL1, setO, setN]); rintro v4 k4 v7 k7
    replace h0 := hx.cell h0
    replace h1 := hx.cell h1
    replace h2 := hx.cell h2
    replace h3 := hx.cell h3
    replace h4 := hx.cell h4
    replace h5 := hx.cell h5
    replace d0 := hx.cell d0
    replace d1 := hx.cell d1
    replace d2 := hx.cell d2
    replace X := X.trans hx
    clear hx k4 k7
    obtain ⟨wq, hwq⟩ : ∃ q : World, q = w' := ⟨_, rfl⟩
    subst hwq
    go_wp2_with fail
    refine (HRV.out _).mono ?_; rintro e w5 ⟨rfl, x⟩
    replace h0 := x.cell h0
    replace h1 := x.cell h1
    replace h2 := x.cell h2
    replace h3 := x.cell h3
    replace h4 := x.cell h4
    replace h5 := x.cell h5
    replace d0 := x.cell d0
    replace d1 := x.cell d1
    replace d2 := x.cell d2
    replace X := X.trans x
    clear x
    go_wp2_with fail
    refine (HRVC.out _).mono ?_; rintro e w6 ⟨rfl, x⟩
    replace h0 := x.cell h0
    replace h1 := x.cell h1
    replace h2 := x.cell h2
    replace h3 := x.cell h3
    replace h4 := x.cell h4
    replace h5 := x.cell h5
    replace d0 := x.cell d0
    replace d1 := x.cell d1
    replace d2 := x.cell d2
    replace X := X.trans x
    clear x
    go_wp2_with fail
    go_ret
    exact ⟨rfl, X⟩
  have tm : ((m.length : Int) != n) = false := bne_eq_false_iff_eq.2 hmn
  have HMN := Lib.hid hmn
  by_cases he0 : 0 ≤ e
  case neg =>
    clear hkK hK hln hmn
    have hbad : ¬ (cval p n k = true ∧ p ≤ 257 ∧ (l.length : Int) = n ∧ (m.length : Int) = n ∧ 0 ≤ e ∧ e ≤ (n - k) / 3) := fun h => he0 h.2.2.2.2.1
    have en : cLine p n k l m e = ([], 1) := by unfold cLine; rw [if_neg (by rw [hv]; simp), if_neg hbad]
    have ea : cApart p n k l m e = (0, 1) := by unfold cApart; rw [en, if_neg (by decide)]
    have CC : Hid (∀ w' (a b : Option Addr) (c d : Nat), Rd w' a l → Rd w' b m → Calls Try.prog 35 #[.agg #[.int .u64 p, .int .i64 n, .int .i64 k], .slice a l.length c, .slice b m.length d, .int .i64 e] w' fun e w'' => e = .returned (.tuple #[.int .i64 0, .int .i64 1]) ∧ Ext w' w'') := Lib.hid (fun w' a b c d h1 h2 => by have q := Close_c p n k l m e a b c d w' h1 h2 hn hn2; rw [en] at q; exact q)
    have CA : Hid (∀ w' (a b : Option Addr) (c d : Nat), Rd w' a l → Rd w' b m → Calls Try.prog 36 #[.agg #[.int .u64 p, .int .i64 n, .int .i64 k], .slice a l.length c, .slice b m.length d, .int .i64 e] w' fun e w'' => e = .returned (.tuple #[.int .i64 0, .int .i64 1]) ∧ Ext w' w'') := Lib.hid (fun w' a b c d h1 h2 => by have q := Apart_c p n k l m e a b c d w' h1 h2 hn hn2; rw [ea] at q; exact q)
    have HRVC := Lib.hid RVC
    clear RVC en ea hbad
    rw [hc] at HRVC
    clear hv hc
    go_enter Try.func10, Try.ntmps10
    go_wp2_with fail
    refine (awake6_c _).mono ?_; rintro e w1 ⟨rfl, x0⟩
    replace h0 := x0.cell h0
    replace h1 := x0.cell h1
    replace h2 := x0.cell h2
    replace h3 := x0.cell h3
    replace h4 := x0.cell h4
    replace h5 := x0.cell h5
    have X := x0.box
    clear x0
    have q3 : (w1.alloc (.cells #[.int .u64 p, .int .i64 n, .int .i64 k] 24)).cell? ⟨w.heap.size, 3, none⟩ = some (.slice a l.length c) := ((Ext.refl w1).alloc _).cell h3
    have q4 : (w1.alloc (.cells #[.int .u64 p, .int .i64 n, .int .i64 k] 24)).cell? ⟨w.heap.size, 4, none⟩ = some (.slice b m.length f) := ((Ext.refl w1).alloc _).cell h4
    go_wp2_with fail
    refine (SC.out _ _ (by simp) (by simp)).mono ?_; rintro e w3 ⟨rfl, x⟩
    have d0 : w3.cell? ⟨w1.heap.size, 0, none⟩ = some (.int .u64 p) := x.box.cell (by simp)
    have d1 : w3.cell? ⟨w1.heap.size, 1, none⟩ = some (.int .i64 n) := x.box.cell (by simp)
    have d2 : w3.cell? ⟨w1.heap.size, 2, none⟩ = some (.int .i64 k) := x.box.cell (by simp)
    replace h0 := x.box.box.cell h0
    replace h1 := x.box.box.cell h1
    replace h2 := x.box.box.cell h2
    replace h3 := x.box.box.cell h3
    replace h4 := x.box.box.cell h4
    replace h5 := x.box.box.cell h5
    replace X := X.trans x.box.box
    clear x q3 q4
    go_wp2_with fail
    refine (HRVC.out _).mono ?_; rintro e w4 ⟨rfl, x⟩
    replace h0 := x.cell h0
    replace h1 := x.cell h1
    replace h2 := x.cell h2
    replace h3 := x.cell h3
    replace h4 := x.cell h4
    replace h5 := x.cell h5
    replace d0 := x.cell d0
    replace d1 := x.cell d1
    replace d2 := x.cell d2
    replace X := X.trans x
    clear x
    go_wp2_with fail
    refine (TC.out _).mono ?_; rintro e w4b ⟨rfl, x⟩
    replace h0 := x.cell h0
    replace h1 := x.cell h1
    replace h2 := x.cell h2
    replace h3 := x.cell h3
    replace h4 := x.cell h4
    replace h5 := x.cell h5
    replace d0 := x.cell d0
    replace d1 := x.cell d1
    replace d2 := x.cell d2
    replace X := X.trans x
    clear x
    go_wp2_with fail
    refine region_factsL [[], [(0, 35)], [], [(2, 37)], [(3, 38)], [], [(5, 40)], [(6, 41)], [], [(8, 43)], [(1, 36), (4, 39), (7, 42), (9, 44)], [(10, 45)], [(11, 34)], [(11, 34)], [(12, 46)], [(13, 47)]] [some 35, some 36, some 37, some 38, some 39, some 40, some 41, some 42, some 43, some 44, some 45, some 34, some 46, some 47, some 4, some 5] [false, true, false, true, false, false, false, false, false, false, false, false, false, false, false, false, false, false, false, false, false, false, false, false, false, false, false, false, false, false, false, false, false, false, false, false, false, false, false, false, false, false, false, false, false, false, false, false, false, false, false, false, false, false, false, false, false, false, false, false, false, false, false, false, false, false, false, false, false, false, false, false, false, false, false, false, false, false, false, false, false, false, false, false, false, false, false, false, false, false, false, false, false, false, false, false, false, false, false, false, false, false, false, false, false, false, false, false, false, false, false, false, false, false, false, false, false, false, false, false, false, false, false, false, false, false, false, false, false, false, false, false, false, false, false, false, false, false, false, false, false, false, false, false, false, false, false, false, false, false, false, false, false, false, false, false, false, false, false, false, false, false, false, false, false, false] (by kernel_rfl) (by kernel_rfl) (by kernel_rfl) ?_
    dsimp only [maskL]
    with_reducible apply FromM.eq
    · intro w' hx; have h0x := hx.cell h0; have h1x := hx.cell h1; have h2x := hx.cell h2; have h3x := hx.cell h3; have h4x := hx.cell h4; have h5x := hx.cell h5; have d0x := hx.cell d0; have d1x := hx.cell d1; have d2x := hx.cell d2; (try dsimp only [List.nil_append, List.cons_append, DepsL, DepsL1, setO, setN, favs, opsOf]); go_wp2; exact OpPostE.some _ rfl rfl (Ext.refl _) rfl
    with_reducible apply FromM.eq
    · intro w' hx; (try dsimp only [List.nil_append, List.cons_append, DepsL, DepsL1, setO, setN, favs, opsOf]); refine op_call 15 [.tmp 35] _ _ _ rfl rfl rfl rfl rfl rfl (fun _ _ => Try.call15 _ _) (of_c p n k _) (fun e w2 h_ => ?_); obtain ⟨rfl, hb2⟩ := h_; exact ⟨_, rfl, hb2, rfl⟩
    with_reducible apply FromM.eq
    · intro w' hx; (try dsimp only [List.nil_append, List.cons_append, DepsL, DepsL1, setO, setN, favs, opsOf]); go_wp2; exact OpPostE.some _ rfl rfl (Ext.refl _) rfl
    with_reducible apply FromM.eq
    · intro w' hx; have h0x := hx.cell h0; have h1x := hx.cell h1; have h2x := hx.cell h2; have h3x := hx.cell h3; have h4x := hx.cell h4; have h5x := hx.cell h5; have d0x := hx.cell d0; have d1x := hx.cell d1; have d2x := hx.cell d2; (try dsimp only [List.nil_append, List.cons_append, DepsL, DepsL1, setO, setN, favs, opsOf]); go_wp2; exact OpPostE.some _ rfl rfl (Ext.refl _) rfl
    refine FromM.step (OwnF w.heap.size l) (OwnF.mono) ?_ ?_
    · intro w' hx; (try dsimp only [List.nil_append, List.cons_append, DepsL, DepsL1, setO, setN, favs, opsOf]); skip;
      refine op_call 16 [.tmp 38] _ _ _ rfl rfl rfl rfl rfl rfl (fun _ _ => Try.call16 _ _) (OCA.out _ _ _ (HA.out.ext (X.trans hx))) (fun e w2 h_ => ?_); obtain ⟨v, rfl, ho, hn'⟩ := h_; exact ⟨_, rfl, hn', (ho.base (X.trans hx).size)⟩
    with_reducible apply FromM.eq
    · intro w' hx; (try dsimp only [List.nil_append, List.cons_append, DepsL, DepsL1, setO, setN, favs, opsOf]); go_wp2; exact OpPostE.some _ rfl rfl (Ext.refl _) rfl
    with_reducible apply FromM.eq
    · intro w' hx; have h0x := hx.cell h0; have h1x := hx.cell h1; have h2x := hx.cell h2; have h3x := hx.cell h3; have h4x := hx.cell h4; have h5x := hx.cell h5; have d0x := hx.cell d0; have d1x := hx.cell d1; have d2x := hx.cell d2; (try dsimp only [List.nil_append, List.cons_append, DepsL, DepsL1, setO, setN, favs, opsOf]); go_wp2; exact OpPostE.some _ rfl rfl (Ext.refl _) rfl
    refine FromM.step (OwnF w.heap.size m) (OwnF.mono) ?_ ?_
    · intro w' hx; (try dsimp only [List.nil_append, List.cons_append, DepsL, DepsL1, setO, setN, favs, opsOf]); skip;
      refine op_call 16 [.tmp 41] _ _ _ rfl rfl rfl rfl rfl rfl (fun _ _ => Try.call16 _ _) (OCB.out _ _ _ (HB.out.ext (X.trans hx))) (fun e w2 h_ => ?_); obtain ⟨v, rfl, ho, hn'⟩ := h_; exact ⟨_, rfl, hn', (ho.base (X.trans hx).size)⟩
    with_reducible apply FromM.eq
    · intro w' hx; (try dsimp only [List.nil_append, List.cons_append, DepsL, DepsL1, setO, setN, favs, opsOf]); go_wp2; exact OpPostE.some _ rfl rfl (Ext.refl _) rfl
    with_reducible apply FromM.eq
    · intro w' hx; have h0x := hx.cell h0; have h1x := hx.cell h1; have h2x := hx.cell h2; have h3x := hx.cell h3; have h4x := hx.cell h4; have h5x := hx.cell h5; have d0x := hx.cell d0; have d1x := hx.cell d1; have d2x := hx.cell d2; (try dsimp only [List.nil_append, List.cons_append, DepsL, DepsL1, setO, setN, favs, opsOf]); go_wp2; exact OpPostE.some _ rfl rfl (Ext.refl _) rfl
    -- 10: t45
    with_reducible apply FromM.eq
    · intro w' hx; (try dsimp only [List.nil_append, List.cons_append, DepsL, DepsL1, setO, setN, favs, opsOf]); rintro v4 k4; rintro v7 k7; obtain ⟨a4, c4, rfl, _, _, r4⟩ := Own.form k4; obtain ⟨a7, c7, rfl, _, _, r7⟩ := Own.form k7; go_wp2_with (go_at_call 35; refine (CC.out _ _ _ _ _ r4 r7).mono ?_; rintro e w2 ⟨rfl, hb2⟩); exact OpPostE.some _ rfl rfl hb2 rfl
    with_reducible apply FromM.eq
    · intro w' hx; (try dsimp only [List.nil_append, List.cons_append, DepsL, DepsL1, setO, setN, favs, opsOf]); go_wp2; exact OpPostE.some _ rfl rfl (Ext.refl _) rfl
    with_reducible apply FromM.eq
    · intro w' hx; (try dsimp only [List.nil_append, List.cons_append, DepsL, DepsL1, setO, setN, favs, opsOf]); go_wp2; exact OpPostE.some _ rfl rfl (Ext.refl _) rfl
    with_reducible apply FromM.eq
    · intro w' hx; (try dsimp only [List.nil_append, List.cons_append, DepsL, DepsL1, setO, setN, favs, opsOf]); go_wp2; exact OpPostE.some _ rfl rfl (Ext.refl _) rfl
    with_reducible apply FromM.eq
    · intro w' hx; (try dsimp only [List.nil_append, List.cons_append, DepsL, DepsL1, setO, setN, favs, opsOf]); go_wp2; exact OpPostE.some _ rfl rfl (Ext.refl _) rfl
    with_reducible apply FromM.eq
    · intro w' hx; (try dsimp only [List.nil_append, List.cons_append, DepsL, DepsL1, setO, setN, favs, opsOf]); go_wp2; exact OpPostE.some _ rfl rfl (Ext.refl _) rfl
    with_reducible refine FromM.fin ?_
    intro w' hx
    (try dsimp only [List.nil_append, List.cons_append, EndL, DepsL1, setO, setN]); rintro v4 k4 v7 k7
    replace h0 := hx.cell h0
    replace h1 := hx.cell h1
    replace h2 := hx.cell h2
    replace h3 := hx.cell h3
    replace h4 := hx.cell h4
    replace h5 := hx.cell h5
    replace d0 := hx.cell d0
    replace d1 := hx.cell d1
    replace d2 := hx.cell d2
    replace X := X.trans hx
    clear hx k4 k7
    obtain ⟨wq, hwq⟩ : ∃ q : World, q = w' := ⟨_, rfl⟩
    subst hwq
    go_wp2_with fail
    refine region_factsL [[], [(0, 49)], [], [(2, 51)], [(3, 52)], [], [(5, 54)], [(6, 55)], [], [(8, 57)], [(1, 50), (4, 53), (7, 56), (9, 58)], [(10, 59)], [(11, 48)], [(11, 48)], [(12, 60)], [(13, 61)]] [some 49, some 50, some 51, some 52, some 53, some 54, some 55, some 56, some 57, some 58, some 59, some 48, some 60, some 61, some 6, some 7] [false, true, false, true, false, false, false, false, false, false, false, false, false, false, false, false, false, false, false, false, false, false, false, false, false, false, false, false, false, false, false, false, false, false, false, false, false, false, false, false, false, false, false, false, false, false, false, false, false, false, false, false, false, false, false, false, false, false, false, false, false, false, false, false, false, false, false, false, false, false, false, false, false, false, false, false, false, false, false, false, false, false, false, false, false, false, false, false, false, false, false, false, false, false, false, false, false, false, false, false, false, false, false, false, false, false, false, false, false, false, false, false, false, false, false, false, false, false, false, false, false, false, false, false, false, false, false, false, false, false, false, false, false, false, false, false, false, false, false, false, false, false, false, false, false, false, false, false, false, false, false, false, false, false, false, false, false, false, false, false, false, false, false, false, false, false] (by kernel_rfl) (by kernel_rfl) (by kernel_rfl) ?_
    dsimp only [maskL]
    with_reducible apply FromM.eq
    · intro w' hx; have h0x := hx.cell h0; have h1x := hx.cell h1; have h2x := hx.cell h2; have h3x := hx.cell h3; have h4x := hx.cell h4; have h5x := hx.cell h5; have d0x := hx.cell d0; have d1x := hx.cell d1; have d2x := hx.cell d2; (try dsimp only [List.nil_append, List.cons_append, DepsL, DepsL1, setO, setN, favs, opsOf]); go_wp2; exact OpPostE.some _ rfl rfl (Ext.refl _) rfl
    with_reducible apply FromM.eq
    · intro w' hx; (try dsimp only [List.nil_append, List.cons_append, DepsL, DepsL1, setO, setN, favs, opsOf]); refine op_call 15 [.tmp 49] _ _ _ rfl rfl rfl rfl rfl rfl (fun _ _ => Try.call15 _ _) (of_c p n k _) (fun e w2 h_ => ?_); obtain ⟨rfl, hb2⟩ := h_; exact ⟨_, rfl, hb2, rfl⟩
    with_reducible apply FromM.eq
    · intro w' hx; (try dsimp only [List.nil_append, List.cons_append, DepsL, DepsL1, setO, setN, favs, opsOf]); go_wp2; exact OpPostE.some _ rfl rfl (Ext.refl _) rfl
    with_reducible apply FromM.eq
    · intro w' hx; have h0x := hx.cell h0; have h1x := hx.cell h1; have h2x := hx.cell h2; have h3x := hx.cell h3; have h4x := hx.cell h4; have h5x := hx.cell h5; have d0x := hx.cell d0; have d1x := hx.cell d1; have d2x := hx.cell d2; (try dsimp only [List.nil_append, List.cons_append, DepsL, DepsL1, setO, setN, favs, opsOf]); go_wp2; exact OpPostE.some _ rfl rfl (Ext.refl _) rfl
    refine FromM.step (OwnF w.heap.size l) (OwnF.mono) ?_ ?_
    · intro w' hx; (try dsimp only [List.nil_append, List.cons_append, DepsL, DepsL1, setO, setN, favs, opsOf]); skip;
      refine op_call 16 [.tmp 52] _ _ _ rfl rfl rfl rfl rfl rfl (fun _ _ => Try.call16 _ _) (OCA.out _ _ _ (HA.out.ext (X.trans hx))) (fun e w2 h_ => ?_); obtain ⟨v, rfl, ho, hn'⟩ := h_; exact ⟨_, rfl, hn', (ho.base (X.trans hx).size)⟩
    with_reducible apply FromM.eq
    · intro w' hx; (try dsimp only [List.nil_append, List.cons_append, DepsL, DepsL1, setO, setN, favs, opsOf]); go_wp2; exact OpPostE.some _ rfl rfl (Ext.refl _) rfl
    with_reducible apply FromM.eq
    · intro w' hx; have h0x := hx.cell h0; have h1x := hx.cell h1; have h2x := hx.cell h2; have h3x := hx.cell h3; have h4x := hx.cell h4; have h5x := hx.cell h5; have d0x := hx.cell d0; have d1x := hx.cell d1; have d2x := hx.cell d2; (try dsimp only [List.nil_append, List.cons_append, DepsL, DepsL1, setO, setN, favs, opsOf]); go_wp2; exact OpPostE.some _ rfl rfl (Ext.refl _) rfl
    refine FromM.step (OwnF w.heap.size m) (OwnF.mono) ?_ ?_
    · intro w' hx; (try dsimp only [List.nil_append, List.cons_append, DepsL, DepsL1, setO, setN, favs, opsOf]); skip;
      refine op_call 16 [.tmp 55] _ _ _ rfl rfl rfl rfl rfl rfl (fun _ _ => Try.call16 _ _) (OCB.out _ _ _ (HB.out.ext (X.trans hx))) (fun e w2 h_ => ?_); obtain ⟨v, rfl, ho, hn'⟩ := h_; exact ⟨_, rfl, hn', (ho.base (X.trans hx).size)⟩
    with_reducible apply FromM.eq
    · intro w' hx; (try dsimp only [List.nil_append, List.cons_append, DepsL, DepsL1, setO, setN, favs, opsOf]); go_wp2; exact OpPostE.some _ rfl rfl (Ext.refl _) rfl
    with_reducible apply FromM.eq
    · intro w' hx; have h0x := hx.cell h0; have h1x := hx.cell h1; have h2x := hx.cell h2; have h3x := hx.cell h3; have h4x := hx.cell h4; have h5x := hx.cell h5; have d0x := hx.cell d0; have d1x := hx.cell d1; have d2x := hx.cell d2; (try dsimp only [List.nil_append, List.cons_append, DepsL, DepsL1, setO, setN, favs, opsOf]); go_wp2; exact OpPostE.some _ rfl rfl (Ext.refl _) rfl
    -- 10: t59
    with_reducible apply FromM.eq
    · intro w' hx; (try dsimp only [List.nil_append, List.cons_append, DepsL, DepsL1, setO, setN, favs, opsOf]); rintro v4 k4; rintro v7 k7; obtain ⟨a4, c4, rfl, _, _, r4⟩ := Own.form k4; obtain ⟨a7, c7, rfl, _, _, r7⟩ := Own.form k7; go_wp2_with (go_at_call 36; refine (CA.out _ _ _ _ _ r4 r7).mono ?_; rintro e w2 ⟨rfl, hb2⟩); exact OpPostE.some _ rfl rfl hb2 rfl
    with_reducible apply FromM.eq
    · intro w' hx; (try dsimp only [List.nil_append, List.cons_append, DepsL, DepsL1, setO, setN, favs, opsOf]); go_wp2; exact OpPostE.some _ rfl rfl (Ext.refl _) rfl
    with_reducible apply FromM.eq
    · intro w' hx; (try dsimp only [List.nil_append, List.cons_append, DepsL, DepsL1, setO, setN, favs, opsOf]); go_wp2; exact OpPostE.some _ rfl rfl (Ext.refl _) rfl
    with_reducible apply FromM.eq
    · intro w' hx; (try dsimp only [List.nil_append, List.cons_append, DepsL, DepsL1, setO, setN, favs, opsOf]); go_wp2; exact OpPostE.some _ rfl rfl (Ext.refl _) rfl
    with_reducible apply FromM.eq
    · intro w' hx; (try dsimp only [List.nil_append, List.cons_append, DepsL, DepsL1, setO, setN, favs, opsOf]); go_wp2; exact OpPostE.some _ rfl rfl (Ext.refl _) rfl
    with_reducible apply FromM.eq
    · intro w' hx; (try dsimp only [List.nil_append, List.cons_append, DepsL, DepsL1, setO, setN, favs, opsOf]); go_wp2; exact OpPostE.some _ rfl rfl (Ext.refl _) rfl
    with_reducible refine FromM.fin ?_
    intro w' hx
    (try dsimp only [List.nil_append, List.cons_append, EndL, DepsL1, setO, setN]); rintro v4 k4 v7 k7
    replace h0 := hx.cell h0
    replace h1 := hx.cell h1
    replace h2 := hx.cell h2
    replace h3 := hx.cell h3
    replace h4 := hx.cell h4
    replace h5 := hx.cell h5
    replace d0 := hx.cell d0
    replace d1 := hx.cell d1
    replace d2 := hx.cell d2
    replace X := X.trans hx
    clear hx k4 k7
    obtain ⟨wq, hwq⟩ : ∃ q : World, q = w' := ⟨_, rfl⟩
    subst hwq
    go_wp2_with fail
    refine (HRV.out _).mono ?_; rintro e w5 ⟨rfl, x⟩
    replace h0 := x.cell h0
    replace h1 := x.cell h1
    replace h2 := x.cell h2
    replace h3 := x.cell h3
    replace h4 := x.cell h4
    replace h5 := x.cell h5
    replace d0 := x.cell d0
    replace d1 := x.cell d1
    replace d2 := x.cell d2
    replace X := X.trans x
    clear x
    go_wp2_with fail
    refine (HRVC.out _).mono ?_; rintro e w6 ⟨rfl, x⟩
    replace h0 := x.cell h0
    replace h1 := x.cell h1
    replace h2 := x.cell h2
    replace h3 := x.cell h3
    replace h4 := x.cell h4
    replace h5 := x.cell h5
    replace d0 := x.cell d0
    replace d1 := x.cell d1
    replace d2 := x.cell d2
    replace X := X.trans x
    clear x
    go_wp2_with fail
    go_ret
    exact ⟨rfl, X⟩
  by_cases he1 : e ≤ (n - k) / 3
  case neg =>
    clear hkK hK hln hmn
    have hbad : ¬ (cval p n k = true ∧ p ≤ 257 ∧ (l.length : Int) = n ∧ (m.length : Int) = n ∧ 0 ≤ e ∧ e ≤ (n - k) / 3) := fun h => he1 h.2.2.2.2.2
    have en : cLine p n k l m e = ([], 1) := by unfold cLine; rw [if_neg (by rw [hv]; simp), if_neg hbad]
    have ea : cApart p n k l m e = (0, 1) := by unfold cApart; rw [en, if_neg (by decide)]
    have CC : Hid (∀ w' (a b : Option Addr) (c d : Nat), Rd w' a l → Rd w' b m → Calls Try.prog 35 #[.agg #[.int .u64 p, .int .i64 n, .int .i64 k], .slice a l.length c, .slice b m.length d, .int .i64 e] w' fun e w'' => e = .returned (.tuple #[.int .i64 0, .int .i64 1]) ∧ Ext w' w'') := Lib.hid (fun w' a b c d h1 h2 => by have q := Close_c p n k l m e a b c d w' h1 h2 hn hn2; rw [en] at q; exact q)
    have CA : Hid (∀ w' (a b : Option Addr) (c d : Nat), Rd w' a l → Rd w' b m → Calls Try.prog 36 #[.agg #[.int .u64 p, .int .i64 n, .int .i64 k], .slice a l.length c, .slice b m.length d, .int .i64 e] w' fun e w'' => e = .returned (.tuple #[.int .i64 0, .int .i64 1]) ∧ Ext w' w'') := Lib.hid (fun w' a b c d h1 h2 => by have q := Apart_c p n k l m e a b c d w' h1 h2 hn hn2; rw [ea] at q; exact q)
    have HRVC := Lib.hid RVC
    clear RVC en ea hbad
    rw [hc] at HRVC
    clear hv hc
    go_enter Try.func10, Try.ntmps10
    go_wp2_with fail
    refine (awake6_c _).mono ?_; rintro e w1 ⟨rfl, x0⟩
    replace h0 := x0.cell h0
    replace h1 := x0.cell h1
    replace h2 := x0.cell h2
    replace h3 := x0.cell h3
    replace h4 := x0.cell h4
    replace h5 := x0.cell h5
    have X := x0.box
    clear x0
    have q3 : (w1.alloc (.cells #[.int .u64 p, .int .i64 n, .int .i64 k] 24)).cell? ⟨w.heap.size, 3, none⟩ = some (.slice a l.length c) := ((Ext.refl w1).alloc _).cell h3
    have q4 : (w1.alloc (.cells #[.int .u64 p, .int .i64 n, .int .i64 k] 24)).cell? ⟨w.heap.size, 4, none⟩ = some (.slice b m.length f) := ((Ext.refl w1).alloc _).cell h4
    go_wp2_with fail
    refine (SC.out _ _ (by simp) (by simp)).mono ?_; rintro e w3 ⟨rfl, x⟩
    have d0 : w3.cell? ⟨w1.heap.size, 0, none⟩ = some (.int .u64 p) := x.box.cell (by simp)
    have d1 : w3.cell? ⟨w1.heap.size, 1, none⟩ = some (.int .i64 n) := x.box.cell (by simp)
    have d2 : w3.cell? ⟨w1.heap.size, 2, none⟩ = some (.int .i64 k) := x.box.cell (by simp)
    replace h0 := x.box.box.cell h0
    replace h1 := x.box.box.cell h1
    replace h2 := x.box.box.cell h2
    replace h3 := x.box.box.cell h3
    replace h4 := x.box.box.cell h4
    replace h5 := x.box.box.cell h5
    replace X := X.trans x.box.box
    clear x q3 q4
    go_wp2_with fail
    refine (HRVC.out _).mono ?_; rintro e w4 ⟨rfl, x⟩
    replace h0 := x.cell h0
    replace h1 := x.cell h1
    replace h2 := x.cell h2
    replace h3 := x.cell h3
    replace h4 := x.cell h4
    replace h5 := x.cell h5
    replace d0 := x.cell d0
    replace d1 := x.cell d1
    replace d2 := x.cell d2
    replace X := X.trans x
    clear x
    go_wp2_with fail
    refine (TC.out _).mono ?_; rintro e w4b ⟨rfl, x⟩
    replace h0 := x.cell h0
    replace h1 := x.cell h1
    replace h2 := x.cell h2
    replace h3 := x.cell h3
    replace h4 := x.cell h4
    replace h5 := x.cell h5
    replace d0 := x.cell d0
    replace d1 := x.cell d1
    replace d2 := x.cell d2
    replace X := X.trans x
    clear x
    go_wp2_with fail
    refine region_factsL [[], [(0, 35)], [], [(2, 37)], [(3, 38)], [], [(5, 40)], [(6, 41)], [], [(8, 43)], [(1, 36), (4, 39), (7, 42), (9, 44)], [(10, 45)], [(11, 34)], [(11, 34)], [(12, 46)], [(13, 47)]] [some 35, some 36, some 37, some 38, some 39, some 40, some 41, some 42, some 43, some 44, some 45, some 34, some 46, some 47, some 4, some 5] [false, true, false, true, false, false, false, false, false, false, false, false, false, false, false, false, false, false, false, false, false, false, false, false, false, false, false, false, false, false, false, false, false, false, false, false, false, false, false, false, false, false, false, false, false, false, false, false, false, false, false, false, false, false, false, false, false, false, false, false, false, false, false, false, false, false, false, false, false, false, false, false, false, false, false, false, false, false, false, false, false, false, false, false, false, false, false, false, false, false, false, false, false, false, false, false, false, false, false, false, false, false, false, false, false, false, false, false, false, false, false, false, false, false, false, false, false, false, false, false, false, false, false, false, false, false, false, false, false, false, false, false, false, false, false, false, false, false, false, false, false, false, false, false, false, false, false, false, false, false, false, false, false, false, false, false, false, false, false, false, false, false, false, false, false, false] (by kernel_rfl) (by kernel_rfl) (by kernel_rfl) ?_
    dsimp only [maskL]
    with_reducible apply FromM.eq
    · intro w' hx; have h0x := hx.cell h0; have h1x := hx.cell h1; have h2x := hx.cell h2; have h3x := hx.cell h3; have h4x := hx.cell h4; have h5x := hx.cell h5; have d0x := hx.cell d0; have d1x := hx.cell d1; have d2x := hx.cell d2; (try dsimp only [List.nil_append, List.cons_append, DepsL, DepsL1, setO, setN, favs, opsOf]); go_wp2; exact OpPostE.some _ rfl rfl (Ext.refl _) rfl
    with_reducible apply FromM.eq
    · intro w' hx; (try dsimp only [List.nil_append, List.cons_append, DepsL, DepsL1, setO, setN, favs, opsOf]); refine op_call 15 [.tmp 35] _ _ _ rfl rfl rfl rfl rfl rfl (fun _ _ => Try.call15 _ _) (of_c p n k _) (fun e w2 h_ => ?_); obtain ⟨rfl, hb2⟩ := h_; exact ⟨_, rfl, hb2, rfl⟩
    with_reducible apply FromM.eq
    · intro w' hx; (try dsimp only [List.nil_append, List.cons_append, DepsL, DepsL1, setO, setN, favs, opsOf]); go_wp2; exact OpPostE.some _ rfl rfl (Ext.refl _) rfl
    with_reducible apply FromM.eq
    · intro w' hx; have h0x := hx.cell h0; have h1x := hx.cell h1; have h2x := hx.cell h2; have h3x := hx.cell h3; have h4x := hx.cell h4; have h5x := hx.cell h5; have d0x := hx.cell d0; have d1x := hx.cell d1; have d2x := hx.cell d2; (try dsimp only [List.nil_append, List.cons_append, DepsL, DepsL1, setO, setN, favs, opsOf]); go_wp2; exact OpPostE.some _ rfl rfl (Ext.refl _) rfl
    refine FromM.step (OwnF w.heap.size l) (OwnF.mono) ?_ ?_
    · intro w' hx; (try dsimp only [List.nil_append, List.cons_append, DepsL, DepsL1, setO, setN, favs, opsOf]); skip;
      refine op_call 16 [.tmp 38] _ _ _ rfl rfl rfl rfl rfl rfl (fun _ _ => Try.call16 _ _) (OCA.out _ _ _ (HA.out.ext (X.trans hx))) (fun e w2 h_ => ?_); obtain ⟨v, rfl, ho, hn'⟩ := h_; exact ⟨_, rfl, hn', (ho.base (X.trans hx).size)⟩
    with_reducible apply FromM.eq
    · intro w' hx; (try dsimp only [List.nil_append, List.cons_append, DepsL, DepsL1, setO, setN, favs, opsOf]); go_wp2; exact OpPostE.some _ rfl rfl (Ext.refl _) rfl
    with_reducible apply FromM.eq
    · intro w' hx; have h0x := hx.cell h0; have h1x := hx.cell h1; have h2x := hx.cell h2; have h3x := hx.cell h3; have h4x := hx.cell h4; have h5x := hx.cell h5; have d0x := hx.cell d0; have d1x := hx.cell d1; have d2x := hx.cell d2; (try dsimp only [List.nil_append, List.cons_append, DepsL, DepsL1, setO, setN, favs, opsOf]); go_wp2; exact OpPostE.some _ rfl rfl (Ext.refl _) rfl
    refine FromM.step (OwnF w.heap.size m) (OwnF.mono) ?_ ?_
    · intro w' hx; (try dsimp only [List.nil_append, List.cons_append, DepsL, DepsL1, setO, setN, favs, opsOf]); skip;
      refine op_call 16 [.tmp 41] _ _ _ rfl rfl rfl rfl rfl rfl (fun _ _ => Try.call16 _ _) (OCB.out _ _ _ (HB.out.ext (X.trans hx))) (fun e w2 h_ => ?_); obtain ⟨v, rfl, ho, hn'⟩ := h_; exact ⟨_, rfl, hn', (ho.base (X.trans hx).size)⟩
    with_reducible apply FromM.eq
    · intro w' hx; (try dsimp only [List.nil_append, List.cons_append, DepsL, DepsL1, setO, setN, favs, opsOf]); go_wp2; exact OpPostE.some _ rfl rfl (Ext.refl _) rfl
    with_reducible apply FromM.eq
    · intro w' hx; have h0x := hx.cell h0; have h1x := hx.cell h1; have h2x := hx.cell h2; have h3x := hx.cell h3; have h4x := hx.cell h4; have h5x := hx.cell h5; have d0x := hx.cell d0; have d1x := hx.cell d1; have d2x := hx.cell d2; (try dsimp only [List.nil_append, List.cons_append, DepsL, DepsL1, setO, setN, favs, opsOf]); go_wp2; exact OpPostE.some _ rfl rfl (Ext.refl _) rfl
    -- 10: t45
    with_reducible apply FromM.eq
    · intro w' hx; (try dsimp only [List.nil_append, List.cons_append, DepsL, DepsL1, setO, setN, favs, opsOf]); rintro v4 k4; rintro v7 k7; obtain ⟨a4, c4, rfl, _, _, r4⟩ := Own.form k4; obtain ⟨a7, c7, rfl, _, _, r7⟩ := Own.form k7; go_wp2_with (go_at_call 35; refine (CC.out _ _ _ _ _ r4 r7).mono ?_; rintro e w2 ⟨rfl, hb2⟩); exact OpPostE.some _ rfl rfl hb2 rfl
    with_reducible apply FromM.eq
    · intro w' hx; (try dsimp only [List.nil_append, List.cons_append, DepsL, DepsL1, setO, setN, favs, opsOf]); go_wp2; exact OpPostE.some _ rfl rfl (Ext.refl _) rfl
    with_reducible apply FromM.eq
    · intro w' hx; (try dsimp only [List.nil_append, List.cons_append, DepsL, DepsL1, setO, setN, favs, opsOf]); go_wp2; exact OpPostE.some _ rfl rfl (Ext.refl _) rfl
    with_reducible apply FromM.eq
    · intro w' hx; (try dsimp only [List.nil_append, List.cons_append, DepsL, DepsL1, setO, setN, favs, opsOf]); go_wp2; exact OpPostE.some _ rfl rfl (Ext.refl _) rfl
    with_reducible apply FromM.eq
    · intro w' hx; (try dsimp only [List.nil_append, List.cons_append, DepsL, DepsL1, setO, setN, favs, opsOf]); go_wp2; exact OpPostE.some _ rfl rfl (Ext.refl _) rfl
    with_reducible apply FromM.eq
    · intro w' hx; (try dsimp only [List.nil_append, List.cons_append, DepsL, DepsL1, setO, setN, favs, opsOf]); go_wp2; exact OpPostE.some _ rfl rfl (Ext.refl _) rfl
    with_reducible refine FromM.fin ?_
    intro w' hx
    (try dsimp only [List.nil_append, List.cons_append, EndL, DepsL1, setO, setN]); rintro v4 k4 v7 k7
    replace h0 := hx.cell h0
    replace h1 := hx.cell h1
    replace h2 := hx.cell h2
    replace h3 := hx.cell h3
    replace h4 := hx.cell h4
    replace h5 := hx.cell h5
    replace d0 := hx.cell d0
    replace d1 := hx.cell d1
    replace d2 := hx.cell d2
    replace X := X.trans hx
    clear hx k4 k7
    obtain ⟨wq, hwq⟩ : ∃ q : World, q = w' := ⟨_, rfl⟩
    subst hwq
    go_wp2_with fail
    refine region_factsL [[], [(0, 49)], [], [(2, 51)], [(3, 52)], [], [(5, 54)], [(6, 55)], [], [(8, 57)], [(1, 50), (4, 53), (7, 56), (9, 58)], [(10, 59)], [(11, 48)], [(11, 48)], [(12, 60)], [(13, 61)]] [some 49, some 50, some 51, some 52, some 53, some 54, some 55, some 56, some 57, some 58, some 59, some 48, some 60, some 61, some 6, some 7] [false, true, false, true, false, false, false, false, false, false, false, false, false, false, false, false, false, false, false, false, false, false, false, false, false, false, false, false, false, false, false, false, false, false, false, false, false, false, false, false, false, false, false, false, false, false, false, false, false, false, false, false, false, false, false, false, false, false, false, false, false, false, false, false, false, false, false, false, false, false, false, false, false, false, false, false, false, false, false, false, false, false, false, false, false, false, false, false, false, false, false, false, false, false, false, false, false, false, false, false, false, false, false, false, false, false, false, false, false, false, false, false, false, false, false, false, false, false, false, false, false, false, false, false, false, false, false, false, false, false, false, false, false, false, false, false, false, false, false, false, false, false, false, false, false, false, false, false, false, false, false, false, false, false, false, false, false, false, false, false, false, false, false, false, false, false] (by kernel_rfl) (by kernel_rfl) (by kernel_rfl) ?_
    dsimp only [maskL]
    with_reducible apply FromM.eq
    · intro w' hx; have h0x := hx.cell h0; have h1x := hx.cell h1; have h2x := hx.cell h2; have h3x := hx.cell h3; have h4x := hx.cell h4; have h5x := hx.cell h5; have d0x := hx.cell d0; have d1x := hx.cell d1; have d2x := hx.cell d2; (try dsimp only [List.nil_append, List.cons_append, DepsL, DepsL1, setO, setN, favs, opsOf]); go_wp2; exact OpPostE.some _ rfl rfl (Ext.refl _) rfl
    with_reducible apply FromM.eq
    · intro w' hx; (try dsimp only [List.nil_append, List.cons_append, DepsL, DepsL1, setO, setN, favs, opsOf]); refine op_call 15 [.tmp 49] _ _ _ rfl rfl rfl rfl rfl rfl (fun _ _ => Try.call15 _ _) (of_c p n k _) (fun e w2 h_ => ?_); obtain ⟨rfl, hb2⟩ := h_; exact ⟨_, rfl, hb2, rfl⟩
    with_reducible apply FromM.eq
    · intro w' hx; (try dsimp only [List.nil_append, List.cons_append, DepsL, DepsL1, setO, setN, favs, opsOf]); go_wp2; exact OpPostE.some _ rfl rfl (Ext.refl _) rfl
    with_reducible apply FromM.eq
    · intro w' hx; have h0x := hx.cell h0; have h1x := hx.cell h1; have h2x := hx.cell h2; have h3x := hx.cell h3; have h4x := hx.cell h4; have h5x := hx.cell h5; have d0x := hx.cell d0; have d1x := hx.cell d1; have d2x := hx.cell d2; (try dsimp only [List.nil_append, List.cons_append, DepsL, DepsL1, setO, setN, favs, opsOf]); go_wp2; exact OpPostE.some _ rfl rfl (Ext.refl _) rfl
    refine FromM.step (OwnF w.heap.size l) (OwnF.mono) ?_ ?_
    · intro w' hx; (try dsimp only [List.nil_append, List.cons_append, DepsL, DepsL1, setO, setN, favs, opsOf]); skip;
      refine op_call 16 [.tmp 52] _ _ _ rfl rfl rfl rfl rfl rfl (fun _ _ => Try.call16 _ _) (OCA.out _ _ _ (HA.out.ext (X.trans hx))) (fun e w2 h_ => ?_); obtain ⟨v, rfl, ho, hn'⟩ := h_; exact ⟨_, rfl, hn', (ho.base (X.trans hx).size)⟩
    with_reducible apply FromM.eq
    · intro w' hx; (try dsimp only [List.nil_append, List.cons_append, DepsL, DepsL1, setO, setN, favs, opsOf]); go_wp2; exact OpPostE.some _ rfl rfl (Ext.refl _) rfl
    with_reducible apply FromM.eq
    · intro w' hx; have h0x := hx.cell h0; have h1x := hx.cell h1; have h2x := hx.cell h2; have h3x := hx.cell h3; have h4x := hx.cell h4; have h5x := hx.cell h5; have d0x := hx.cell d0; have d1x := hx.cell d1; have d2x := hx.cell d2; (try dsimp only [List.nil_append, List.cons_append, DepsL, DepsL1, setO, setN, favs, opsOf]); go_wp2; exact OpPostE.some _ rfl rfl (Ext.refl _) rfl
    refine FromM.step (OwnF w.heap.size m) (OwnF.mono) ?_ ?_
    · intro w' hx; (try dsimp only [List.nil_append, List.cons_append, DepsL, DepsL1, setO, setN, favs, opsOf]); skip;
      refine op_call 16 [.tmp 55] _ _ _ rfl rfl rfl rfl rfl rfl (fun _ _ => Try.call16 _ _) (OCB.out _ _ _ (HB.out.ext (X.trans hx))) (fun e w2 h_ => ?_); obtain ⟨v, rfl, ho, hn'⟩ := h_; exact ⟨_, rfl, hn', (ho.base (X.trans hx).size)⟩
    with_reducible apply FromM.eq
    · intro w' hx; (try dsimp only [List.nil_append, List.cons_append, DepsL, DepsL1, setO, setN, favs, opsOf]); go_wp2; exact OpPostE.some _ rfl rfl (Ext.refl _) rfl
    with_reducible apply FromM.eq
    · intro w' hx; have h0x := hx.cell h0; have h1x := hx.cell h1; have h2x := hx.cell h2; have h3x := hx.cell h3; have h4x := hx.cell h4; have h5x := hx.cell h5; have d0x := hx.cell d0; have d1x := hx.cell d1; have d2x := hx.cell d2; (try dsimp only [List.nil_append, List.cons_append, DepsL, DepsL1, setO, setN, favs, opsOf]); go_wp2; exact OpPostE.some _ rfl rfl (Ext.refl _) rfl
    -- 10: t59
    with_reducible apply FromM.eq
    · intro w' hx; (try dsimp only [List.nil_append, List.cons_append, DepsL, DepsL1, setO, setN, favs, opsOf]); rintro v4 k4; rintro v7 k7; obtain ⟨a4, c4, rfl, _, _, r4⟩ := Own.form k4; obtain ⟨a7, c7, rfl, _, _, r7⟩ := Own.form k7; go_wp2_with (go_at_call 36; refine (CA.out _ _ _ _ _ r4 r7).mono ?_; rintro e w2 ⟨rfl, hb2⟩); exact OpPostE.some _ rfl rfl hb2 rfl
    with_reducible apply FromM.eq
    · intro w' hx; (try dsimp only [List.nil_append, List.cons_append, DepsL, DepsL1, setO, setN, favs, opsOf]); go_wp2; exact OpPostE.some _ rfl rfl (Ext.refl _) rfl
    with_reducible apply FromM.eq
    · intro w' hx; (try dsimp only [List.nil_append, List.cons_append, DepsL, DepsL1, setO, setN, favs, opsOf]); go_wp2; exact OpPostE.some _ rfl rfl (Ext.refl _) rfl
    with_reducible apply FromM.eq
    · intro w' hx; (try dsimp only [List.nil_append, List.cons_append, DepsL, DepsL1, setO, setN, favs, opsOf]); go_wp2; exact OpPostE.some _ rfl rfl (Ext.refl _) rfl
    with_reducible apply FromM.eq
    · intro w' hx; (try dsimp only [List.nil_append, List.cons_append, DepsL, DepsL1, setO, setN, favs, opsOf]); go_wp2; exact OpPostE.some _ rfl rfl (Ext.refl _) rfl
    with_reducible apply FromM.eq
    · intro w' hx; (try dsimp only [List.nil_append, List.cons_append, DepsL, DepsL1, setO, setN, favs, opsOf]); go_wp2; exact OpPostE.some _ rfl rfl (Ext.refl _) rfl
    with_reducible refine FromM.fin ?_
    intro w' hx
    (try dsimp only [List.nil_append, List.cons_append, EndL, DepsL1, setO, setN]); rintro v4 k4 v7 k7
    replace h0 := hx.cell h0
    replace h1 := hx.cell h1
    replace h2 := hx.cell h2
    replace h3 := hx.cell h3
    replace h4 := hx.cell h4
    replace h5 := hx.cell h5
    replace d0 := hx.cell d0
    replace d1 := hx.cell d1
    replace d2 := hx.cell d2
    replace X := X.trans hx
    clear hx k4 k7
    obtain ⟨wq, hwq⟩ : ∃ q : World, q = w' := ⟨_, rfl⟩
    subst hwq
    go_wp2_with fail
    refine (HRV.out _).mono ?_; rintro e w5 ⟨rfl, x⟩
    replace h0 := x.cell h0
    replace h1 := x.cell h1
    replace h2 := x.cell h2
    replace h3 := x.cell h3
    replace h4 := x.cell h4
    replace h5 := x.cell h5
    replace d0 := x.cell d0
    replace d1 := x.cell d1
    replace d2 := x.cell d2
    replace X := X.trans x
    clear x
    go_wp2_with fail
    refine (HRVC.out _).mono ?_; rintro e w6 ⟨rfl, x⟩
    replace h0 := x.cell h0
    replace h1 := x.cell h1
    replace h2 := x.cell h2
    replace h3 := x.cell h3
    replace h4 := x.cell h4
    replace h5 := x.cell h5
    replace d0 := x.cell d0
    replace d1 := x.cell d1
    replace d2 := x.cell d2
    replace X := X.trans x
    clear x
    go_wp2_with fail
    go_ret
    exact ⟨rfl, X⟩
  obtain ⟨N, hN⟩ : ∃ N : Nat, N = n.toNat := ⟨_, rfl⟩
  have hnN : n = (N : Int) := by omega
  have en : cLine p n k l m e = (lineM p N K l m e, 0) := by unfold cLine; rw [if_neg (by rw [hv]; simp), if_pos ⟨hc, hp, hln, hmn, he0, he1⟩, hN, hK]
  have ea : cApart p n k l m e = (apM p N l m (lineM p N K l m e), 0) := by unfold cApart; rw [en, if_pos rfl, hN]
  have hc2 := hc
  rw [hnN, hkK] at hc2
  have RCC := fun w' (a b : Option Addr) (c d : Nat) (h1 : Rd w' a l) (h2 : Rd w' b m) => RClose_c p N K l m e a b c d w' hc2 hp (by omega) (by omega) (by omega) h1 h2
  have RAC := fun w' (a b : Option Addr) (c d : Nat) (h1 : Rd w' a l) (h2 : Rd w' b m) => RApart_c p N K l m e a b c d w' hc2 hp (by omega) (by omega) (by omega) h1 h2
  rw [← hnN, ← hkK] at RCC RAC
  obtain ⟨R, hR⟩ : ∃ R, R = lineM p N K l m e := ⟨_, rfl⟩
  rw [← hR] at en ea RCC RAC
  obtain ⟨AP, hAP⟩ : ∃ AP, AP = apM p N l m R := ⟨_, rfl⟩
  rw [← hAP] at ea RAC
  obtain ⟨RN, hRN⟩ : ∃ RN, RN = R.length := ⟨_, rfl⟩
  have hlN : l.length = N := by omega
  have hmN : m.length = N := by omega
  have RCC2 : Hid (∀ w' (a b : Option Addr) (c d : Nat), Rd w' a l → Rd w' b m → Calls Try.prog 37 #[.agg #[.int .u64 p, .int .i64 n, .int .i64 k], .slice a l.length c, .slice b m.length d, .int .i64 e] w' fun e w'' => e = .returned (.int .i64 (RN : Int)) ∧ Ext w' w'') := Lib.hid (fun w' a b c d h1 h2 => by rw [hRN, hlN, hmN]; exact RCC w' a b c d h1 h2)
  have RAC2 : Hid (∀ w' (a b : Option Addr) (c d : Nat), Rd w' a l → Rd w' b m → Calls Try.prog 38 #[.agg #[.int .u64 p, .int .i64 n, .int .i64 k], .slice a l.length c, .slice b m.length d, .int .i64 e] w' fun e w'' => e = .returned (.int .i64 AP) ∧ Ext w' w'') := Lib.hid (fun w' a b c d h1 h2 => by rw [hlN, hmN]; exact RAC w' a b c d h1 h2)
  have CC : Hid (∀ w' (a b : Option Addr) (c d : Nat), Rd w' a l → Rd w' b m → Calls Try.prog 35 #[.agg #[.int .u64 p, .int .i64 n, .int .i64 k], .slice a l.length c, .slice b m.length d, .int .i64 e] w' fun e w'' => e = .returned (.tuple #[.int .i64 (RN : Int), .int .i64 0]) ∧ Ext w' w'') := Lib.hid (fun w' a b c d h1 h2 => by have q := Close_c p n k l m e a b c d w' h1 h2 hn hn2; rw [en] at q; rw [hRN]; exact q)
  have CA : Hid (∀ w' (a b : Option Addr) (c d : Nat), Rd w' a l → Rd w' b m → Calls Try.prog 36 #[.agg #[.int .u64 p, .int .i64 n, .int .i64 k], .slice a l.length c, .slice b m.length d, .int .i64 e] w' fun e w'' => e = .returned (.tuple #[.int .i64 AP, .int .i64 0]) ∧ Ext w' w'') := Lib.hid (fun w' a b c d h1 h2 => by have q := Apart_c p n k l m e a b c d w' h1 h2 hn hn2; rw [ea] at q; exact q)
  rw [hc] at RVC
  have HRVC := Lib.hid RVC
  clear RVC en ea hv hc hR hAP hRN hlN hmN RCC RAC hc2 hnN hN hkK hK hln hmn
  go_enter Try.func10, Try.ntmps10
  go_wp2_with fail
  refine (awake6_c _).mono ?_; rintro e w1 ⟨rfl, x0⟩
  replace h0 := x0.cell h0
  replace h1 := x0.cell h1
  replace h2 := x0.cell h2
  replace h3 := x0.cell h3
  replace h4 := x0.cell h4
  replace h5 := x0.cell h5
  have X := x0.box
  clear x0
  have q3 : (w1.alloc (.cells #[.int .u64 p, .int .i64 n, .int .i64 k] 24)).cell? ⟨w.heap.size, 3, none⟩ = some (.slice a l.length c) := ((Ext.refl w1).alloc _).cell h3
  have q4 : (w1.alloc (.cells #[.int .u64 p, .int .i64 n, .int .i64 k] 24)).cell? ⟨w.heap.size, 4, none⟩ = some (.slice b m.length f) := ((Ext.refl w1).alloc _).cell h4
  go_wp2_with fail
  refine (SC.out _ _ (by simp) (by simp)).mono ?_; rintro e w3 ⟨rfl, x⟩
  have d0 : w3.cell? ⟨w1.heap.size, 0, none⟩ = some (.int .u64 p) := x.box.cell (by simp)
  have d1 : w3.cell? ⟨w1.heap.size, 1, none⟩ = some (.int .i64 n) := x.box.cell (by simp)
  have d2 : w3.cell? ⟨w1.heap.size, 2, none⟩ = some (.int .i64 k) := x.box.cell (by simp)
  replace h0 := x.box.box.cell h0
  replace h1 := x.box.box.cell h1
  replace h2 := x.box.box.cell h2
  replace h3 := x.box.box.cell h3
  replace h4 := x.box.box.cell h4
  replace h5 := x.box.box.cell h5
  replace X := X.trans x.box.box
  clear x q3 q4
  go_wp2_with fail
  refine (HRVC.out _).mono ?_; rintro e w4 ⟨rfl, x⟩
  replace h0 := x.cell h0
  replace h1 := x.cell h1
  replace h2 := x.cell h2
  replace h3 := x.cell h3
  replace h4 := x.cell h4
  replace h5 := x.cell h5
  replace d0 := x.cell d0
  replace d1 := x.cell d1
  replace d2 := x.cell d2
  replace X := X.trans x
  clear x
  go_wp2_with fail
  refine (TC.out _).mono ?_; rintro e w4b ⟨rfl, x⟩
  replace h0 := x.cell h0
  replace h1 := x.cell h1
  replace h2 := x.cell h2
  replace h3 := x.cell h3
  replace h4 := x.cell h4
  replace h5 := x.cell h5
  replace d0 := x.cell d0
  replace d1 := x.cell d1
  replace d2 := x.cell d2
  replace X := X.trans x
  clear x
  go_wp2_with fail
  refine region_factsL [[], [(0, 35)], [], [(2, 37)], [(3, 38)], [], [(5, 40)], [(6, 41)], [], [(8, 43)], [(1, 36), (4, 39), (7, 42), (9, 44)], [(10, 45)], [(11, 34)], [(11, 34)], [(12, 46)], [(13, 47)]] [some 35, some 36, some 37, some 38, some 39, some 40, some 41, some 42, some 43, some 44, some 45, some 34, some 46, some 47, some 4, some 5] [false, true, false, true, false, false, false, false, false, false, false, false, false, false, false, false, false, false, false, false, false, false, false, false, false, false, false, false, false, false, false, false, false, false, false, false, false, false, false, false, false, false, false, false, false, false, false, false, false, false, false, false, false, false, false, false, false, false, false, false, false, false, false, false, false, false, false, false, false, false, false, false, false, false, false, false, false, false, false, false, false, false, false, false, false, false, false, false, false, false, false, false, false, false, false, false, false, false, false, false, false, false, false, false, false, false, false, false, false, false, false, false, false, false, false, false, false, false, false, false, false, false, false, false, false, false, false, false, false, false, false, false, false, false, false, false, false, false, false, false, false, false, false, false, false, false, false, false, false, false, false, false, false, false, false, false, false, false, false, false, false, false, false, false, false, false] (by kernel_rfl) (by kernel_rfl) (by kernel_rfl) ?_
  dsimp only [maskL]
  with_reducible apply FromM.eq
  · intro w' hx; have h0x := hx.cell h0; have h1x := hx.cell h1; have h2x := hx.cell h2; have h3x := hx.cell h3; have h4x := hx.cell h4; have h5x := hx.cell h5; have d0x := hx.cell d0; have d1x := hx.cell d1; have d2x := hx.cell d2; (try dsimp only [List.nil_append, List.cons_append, DepsL, DepsL1, setO, setN, favs, opsOf]); go_wp2; exact OpPostE.some _ rfl rfl (Ext.refl _) rfl
  with_reducible apply FromM.eq
  · intro w' hx; (try dsimp only [List.nil_append, List.cons_append, DepsL, DepsL1, setO, setN, favs, opsOf]); refine op_call 15 [.tmp 35] _ _ _ rfl rfl rfl rfl rfl rfl (fun _ _ => Try.call15 _ _) (of_c p n k _) (fun e w2 h_ => ?_); obtain ⟨rfl, hb2⟩ := h_; exact ⟨_, rfl, hb2, rfl⟩
  with_reducible apply FromM.eq
  · intro w' hx; (try dsimp only [List.nil_append, List.cons_append, DepsL, DepsL1, setO, setN, favs, opsOf]); go_wp2; exact OpPostE.some _ rfl rfl (Ext.refl _) rfl
  with_reducible apply FromM.eq
  · intro w' hx; have h0x := hx.cell h0; have h1x := hx.cell h1; have h2x := hx.cell h2; have h3x := hx.cell h3; have h4x := hx.cell h4; have h5x := hx.cell h5; have d0x := hx.cell d0; have d1x := hx.cell d1; have d2x := hx.cell d2; (try dsimp only [List.nil_append, List.cons_append, DepsL, DepsL1, setO, setN, favs, opsOf]); go_wp2; exact OpPostE.some _ rfl rfl (Ext.refl _) rfl
  refine FromM.step (OwnF w.heap.size l) (OwnF.mono) ?_ ?_
  · intro w' hx; (try dsimp only [List.nil_append, List.cons_append, DepsL, DepsL1, setO, setN, favs, opsOf]); skip;
    refine op_call 16 [.tmp 38] _ _ _ rfl rfl rfl rfl rfl rfl (fun _ _ => Try.call16 _ _) (OCA.out _ _ _ (HA.out.ext (X.trans hx))) (fun e w2 h_ => ?_); obtain ⟨v, rfl, ho, hn'⟩ := h_; exact ⟨_, rfl, hn', (ho.base (X.trans hx).size)⟩
  with_reducible apply FromM.eq
  · intro w' hx; (try dsimp only [List.nil_append, List.cons_append, DepsL, DepsL1, setO, setN, favs, opsOf]); go_wp2; exact OpPostE.some _ rfl rfl (Ext.refl _) rfl
  with_reducible apply FromM.eq
  · intro w' hx; have h0x := hx.cell h0; have h1x := hx.cell h1; have h2x := hx.cell h2; have h3x := hx.cell h3; have h4x := hx.cell h4; have h5x := hx.cell h5; have d0x := hx.cell d0; have d1x := hx.cell d1; have d2x := hx.cell d2; (try dsimp only [List.nil_append, List.cons_append, DepsL, DepsL1, setO, setN, favs, opsOf]); go_wp2; exact OpPostE.some _ rfl rfl (Ext.refl _) rfl
  refine FromM.step (OwnF w.heap.size m) (OwnF.mono) ?_ ?_
  · intro w' hx; (try dsimp only [List.nil_append, List.cons_append, DepsL, DepsL1, setO, setN, favs, opsOf]); skip;
    refine op_call 16 [.tmp 41] _ _ _ rfl rfl rfl rfl rfl rfl (fun _ _ => Try.call16 _ _) (OCB.out _ _ _ (HB.out.ext (X.trans hx))) (fun e w2 h_ => ?_); obtain ⟨v, rfl, ho, hn'⟩ := h_; exact ⟨_, rfl, hn', (ho.base (X.trans hx).size)⟩
  with_reducible apply FromM.eq
  · intro w' hx; (try dsimp only [List.nil_append, List.cons_append, DepsL, DepsL1, setO, setN, favs, opsOf]); go_wp2; exact OpPostE.some _ rfl rfl (Ext.refl _) rfl
  with_reducible apply FromM.eq
  · intro w' hx; have h0x := hx.cell h0; have h1x := hx.cell h1; have h2x := hx.cell h2; have h3x := hx.cell h3; have h4x := hx.cell h4; have h5x := hx.cell h5; have d0x := hx.cell d0; have d1x := hx.cell d1; have d2x := hx.cell d2; (try dsimp only [List.nil_append, List.cons_append, DepsL, DepsL1, setO, setN, favs, opsOf]); go_wp2; exact OpPostE.some _ rfl rfl (Ext.refl _) rfl
  -- 10: t45
  with_reducible apply FromM.eq
  · intro w' hx; (try dsimp only [List.nil_append, List.cons_append, DepsL, DepsL1, setO, setN, favs, opsOf]); rintro v4 k4; rintro v7 k7; obtain ⟨a4, c4, rfl, _, _, r4⟩ := Own.form k4; obtain ⟨a7, c7, rfl, _, _, r7⟩ := Own.form k7; go_wp2_with (go_at_call 35; refine (CC.out _ _ _ _ _ r4 r7).mono ?_; rintro e w2 ⟨rfl, hb2⟩); exact OpPostE.some _ rfl rfl hb2 rfl
  with_reducible apply FromM.eq
  · intro w' hx; (try dsimp only [List.nil_append, List.cons_append, DepsL, DepsL1, setO, setN, favs, opsOf]); go_wp2; exact OpPostE.some _ rfl rfl (Ext.refl _) rfl
  with_reducible apply FromM.eq
  · intro w' hx; (try dsimp only [List.nil_append, List.cons_append, DepsL, DepsL1, setO, setN, favs, opsOf]); go_wp2; exact OpPostE.some _ rfl rfl (Ext.refl _) rfl
  with_reducible apply FromM.eq
  · intro w' hx; (try dsimp only [List.nil_append, List.cons_append, DepsL, DepsL1, setO, setN, favs, opsOf]); go_wp2; exact OpPostE.some _ rfl rfl (Ext.refl _) rfl
  with_reducible apply FromM.eq
  · intro w' hx; (try dsimp only [List.nil_append, List.cons_append, DepsL, DepsL1, setO, setN, favs, opsOf]); go_wp2; exact OpPostE.some _ rfl rfl (Ext.refl _) rfl
  with_reducible apply FromM.eq
  · intro w' hx; (try dsimp only [List.nil_append, List.cons_append, DepsL, DepsL1, setO, setN, favs, opsOf]); go_wp2; exact OpPostE.some _ rfl rfl (Ext.refl _) rfl
  with_reducible refine FromM.fin ?_
  intro w' hx
  (try dsimp only [List.nil_append, List.cons_append, EndL, DepsL1, setO, setN]); rintro v4 k4 v7 k7
  replace h0 := hx.cell h0
  replace h1 := hx.cell h1
  replace h2 := hx.cell h2
  replace h3 := hx.cell h3
  replace h4 := hx.cell h4
  replace h5 := hx.cell h5
  replace d0 := hx.cell d0
  replace d1 := hx.cell d1
  replace d2 := hx.cell d2
  replace X := X.trans hx
  clear hx k4 k7
  obtain ⟨wq, hwq⟩ : ∃ q : World, q = w' := ⟨_, rfl⟩
  subst hwq
  go_wp2_with fail
  refine region_factsL [[], [(0, 49)], [], [(2, 51)], [(3, 52)], [], [(5, 54)], [(6, 55)], [], [(8, 57)], [(1, 50), (4, 53), (7, 56), (9, 58)], [(10, 59)], [(11, 48)], [(11, 48)], [(12, 60)], [(13, 61)]] [some 49, some 50, some 51, some 52, some 53, some 54, some 55, some 56, some 57, some 58, some 59, some 48, some 60, some 61, some 6, some 7] [false, true, false, true, false, false, false, false, false, false, false, false, false, false, false, false, false, false, false, false, false, false, false, false, false, false, false, false, false, false, false, false, false, false, false, false, false, false, false, false, false, false, false, false, false, false, false, false, false, false, false, false, false, false, false, false, false, false, false, false, false, false, false, false, false, false, false, false, false, false, false, false, false, false, false, false, false, false, false, false, false, false, false, false, false, false, false, false, false, false, false, false, false, false, false, false, false, false, false, false, false, false, false, false, false, false, false, false, false, false, false, false, false, false, false, false, false, false, false, false, false, false, false, false, false, false, false, false, false, false, false, false, false, false, false, false, false, false, false, false, false, false, false, false, false, false, false, false, false, false, false, false, false, false, false, false, false, false, false, false, false, false, false, false, false, false] (by kernel_rfl) (by kernel_rfl) (by kernel_rfl) ?_
  dsimp only [maskL]
  with_reducible apply FromM.eq
  · intro w' hx; have h0x := hx.cell h0; have h1x := hx.cell h1; have h2x := hx.cell h2; have h3x := hx.cell h3; have h4x := hx.cell h4; have h5x := hx.cell h5; have d0x := hx.cell d0; have d1x := hx.cell d1; have d2x := hx.cell d2; (try dsimp only [List.nil_append, List.cons_append, DepsL, DepsL1, setO, setN, favs, opsOf]); go_wp2; exact OpPostE.some _ rfl rfl (Ext.refl _) rfl
  with_reducible apply FromM.eq
  · intro w' hx; (try dsimp only [List.nil_append, List.cons_append, DepsL, DepsL1, setO, setN, favs, opsOf]); refine op_call 15 [.tmp 49] _ _ _ rfl rfl rfl rfl rfl rfl (fun _ _ => Try.call15 _ _) (of_c p n k _) (fun e w2 h_ => ?_); obtain ⟨rfl, hb2⟩ := h_; exact ⟨_, rfl, hb2, rfl⟩
  with_reducible apply FromM.eq
  · intro w' hx; (try dsimp only [List.nil_append, List.cons_append, DepsL, DepsL1, setO, setN, favs, opsOf]); go_wp2; exact OpPostE.some _ rfl rfl (Ext.refl _) rfl
  with_reducible apply FromM.eq
  · intro w' hx; have h0x := hx.cell h0; have h1x := hx.cell h1; have h2x := hx.cell h2; have h3x := hx.cell h3; have h4x := hx.cell h4; have h5x := hx.cell h5; have d0x := hx.cell d0; have d1x := hx.cell d1; have d2x := hx.cell d2; (try dsimp only [List.nil_append, List.cons_append, DepsL, DepsL1, setO, setN, favs, opsOf]); go_wp2; exact OpPostE.some _ rfl rfl (Ext.refl _) rfl
  refine FromM.step (OwnF w.heap.size l) (OwnF.mono) ?_ ?_
  · intro w' hx; (try dsimp only [List.nil_append, List.cons_append, DepsL, DepsL1, setO, setN, favs, opsOf]); skip;
    refine op_call 16 [.tmp 52] _ _ _ rfl rfl rfl rfl rfl rfl (fun _ _ => Try.call16 _ _) (OCA.out _ _ _ (HA.out.ext (X.trans hx))) (fun e w2 h_ => ?_); obtain ⟨v, rfl, ho, hn'⟩ := h_; exact ⟨_, rfl, hn', (ho.base (X.trans hx).size)⟩
  with_reducible apply FromM.eq
  · intro w' hx; (try dsimp only [List.nil_append, List.cons_append, DepsL, DepsL1, setO, setN, favs, opsOf]); go_wp2; exact OpPostE.some _ rfl rfl (Ext.refl _) rfl
  with_reducible apply FromM.eq
  · intro w' hx; have h0x := hx.cell h0; have h1x := hx.cell h1; have h2x := hx.cell h2; have h3x := hx.cell h3; have h4x := hx.cell h4; have h5x := hx.cell h5; have d0x := hx.cell d0; have d1x := hx.cell d1; have d2x := hx.cell d2; (try dsimp only [List.nil_append, List.cons_append, DepsL, DepsL1, setO, setN, favs, opsOf]); go_wp2; exact OpPostE.some _ rfl rfl (Ext.refl _) rfl
  refine FromM.step (OwnF w.heap.size m) (OwnF.mono) ?_ ?_
  · intro w' hx; (try dsimp only [List.nil_append, List.cons_append, DepsL, DepsL1, setO, setN, favs, opsOf]); skip;
    refine op_call 16 [.tmp 55] _ _ _ rfl rfl rfl rfl rfl rfl (fun _ _ => Try.call16 _ _) (OCB.out _ _ _ (HB.out.ext (X.trans hx))) (fun e w2 h_ => ?_); obtain ⟨v, rfl, ho, hn'⟩ := h_; exact ⟨_, rfl, hn', (ho.base (X.trans hx).size)⟩
  with_reducible apply FromM.eq
  · intro w' hx; (try dsimp only [List.nil_append, List.cons_append, DepsL, DepsL1, setO, setN, favs, opsOf]); go_wp2; exact OpPostE.some _ rfl rfl (Ext.refl _) rfl
  with_reducible apply FromM.eq
  · intro w' hx; have h0x := hx.cell h0; have h1x := hx.cell h1; have h2x := hx.cell h2; have h3x := hx.cell h3; have h4x := hx.cell h4; have h5x := hx.cell h5; have d0x := hx.cell d0; have d1x := hx.cell d1; have d2x := hx.cell d2; (try dsimp only [List.nil_append, List.cons_append, DepsL, DepsL1, setO, setN, favs, opsOf]); go_wp2; exact OpPostE.some _ rfl rfl (Ext.refl _) rfl
  -- 10: t59
  with_reducible apply FromM.eq
  · intro w' hx; (try dsimp only [List.nil_append, List.cons_append, DepsL, DepsL1, setO, setN, favs, opsOf]); rintro v4 k4; rintro v7 k7; obtain ⟨a4, c4, rfl, _, _, r4⟩ := Own.form k4; obtain ⟨a7, c7, rfl, _, _, r7⟩ := Own.form k7; go_wp2_with (go_at_call 36; refine (CA.out _ _ _ _ _ r4 r7).mono ?_; rintro e w2 ⟨rfl, hb2⟩); exact OpPostE.some _ rfl rfl hb2 rfl
  with_reducible apply FromM.eq
  · intro w' hx; (try dsimp only [List.nil_append, List.cons_append, DepsL, DepsL1, setO, setN, favs, opsOf]); go_wp2; exact OpPostE.some _ rfl rfl (Ext.refl _) rfl
  with_reducible apply FromM.eq
  · intro w' hx; (try dsimp only [List.nil_append, List.cons_append, DepsL, DepsL1, setO, setN, favs, opsOf]); go_wp2; exact OpPostE.some _ rfl rfl (Ext.refl _) rfl
  with_reducible apply FromM.eq
  · intro w' hx; (try dsimp only [List.nil_append, List.cons_append, DepsL, DepsL1, setO, setN, favs, opsOf]); go_wp2; exact OpPostE.some _ rfl rfl (Ext.refl _) rfl
  with_reducible apply FromM.eq
  · intro w' hx; (try dsimp only [List.nil_append, List.cons_append, DepsL, DepsL1, setO, setN, favs, opsOf]); go_wp2; exact OpPostE.some _ rfl rfl (Ext.refl _) rfl
  with_reducible apply FromM.eq
  · intro w' hx; (try dsimp only [List.nil_append, List.cons_append, DepsL, DepsL1, setO, setN, favs, opsOf]); go_wp2; exact OpPostE.some _ rfl rfl (Ext.refl _) rfl
  with_reducible refine FromM.fin ?_
  intro w' hx
  (try dsimp only [List.nil_append, List.cons_append, EndL, DepsL1, setO, setN]); rintro v4 k4 v7 k7
  replace h0 := hx.cell h0
  replace h1 := hx.cell h1
  replace h2 := hx.cell h2
  replace h3 := hx.cell h3
  replace h4 := hx.cell h4
  replace h5 := hx.cell h5
  replace d0 := hx.cell d0
  replace d1 := hx.cell d1
  replace d2 := hx.cell d2
  replace X := X.trans hx
  clear hx k4 k7
  obtain ⟨wq, hwq⟩ : ∃ q : World, q = w' := ⟨_, rfl⟩
  subst hwq
  go_wp2_with fail
  refine (HRV.out _).mono ?_; rintro e w5 ⟨rfl, x⟩
  replace h0 := x.cell h0
  replace h1 := x.cell h1
  replace h2 := x.cell h2
  replace h3 := x.cell h3
  replace h4 := x.cell h4
  replace h5 := x.cell h5
  replace d0 := x.cell d0
  replace d1 := x.cell d1
  replace d2 := x.cell d2
  replace X := X.trans x
  clear x
  go_wp2_with fail
  refine (HRVC.out _).mono ?_; rintro e w6 ⟨rfl, x⟩
  replace h0 := x.cell h0
  replace h1 := x.cell h1
  replace h2 := x.cell h2
  replace h3 := x.cell h3
  replace h4 := x.cell h4
  replace h5 := x.cell h5
  replace d0 := x.cell d0
  replace d1 := x.cell d1
  replace d2 := x.cell d2
  replace X := X.trans x
  clear x
  go_wp2_with fail
  refine (RCC2.out _ _ _ _ _ (HA.out.ext X) (HB.out.ext X)).mono ?_; rintro e w7 ⟨rfl, x⟩
  replace h0 := x.cell h0
  replace h1 := x.cell h1
  replace h2 := x.cell h2
  replace h3 := x.cell h3
  replace h4 := x.cell h4
  replace h5 := x.cell h5
  replace d0 := x.cell d0
  replace d1 := x.cell d1
  replace d2 := x.cell d2
  replace X := X.trans x
  clear x
  go_wp2_with fail
  refine (RAC2.out _ _ _ _ _ (HA.out.ext X) (HB.out.ext X)).mono ?_; rintro e w8 ⟨rfl, x⟩
  replace X := X.trans x
  clear x
  go_wp2_with fail
  go_ret
  exact ⟨rfl, X⟩
end Go.Proofs.Ytgnngifnoaagjaa
