/- Walk of CodeSeparated. -/
import Derived.Test.YtgnngifnoaagjaaCd6
import Derived.Test.YtgnngifnoaagjaaGC
namespace Go.Proofs.Ytgnngifnoaagjaa
open Go.RowKit
theorem short2 (p : Nat) (n k : Int) (a b : Option Addr) (m c m2 c2 : Nat) (r : Bool) (hb : shB p n k [(a, m, c), (b, m2, c2)] = r) (hn : n ≤ 9223372036854775807) (hn2 : -9223372036854775808 ≤ n) (w : World) (g : Nat) (hc : w.cell? ⟨g, 0, none⟩ = some (.slice a m c)) (hc2 : w.cell? ⟨g, 1, none⟩ = some (.slice b m2 c2)) :
    Calls Try.prog 13 #[.agg #[.int .u64 p, .int .i64 n, .int .i64 k], .slice (some ⟨g, 0, none⟩) 2 2] w fun e w' => e = .returned (.bool r) ∧ Ext w w' := by
  subst hb
  exact short_c p n k [(a, m, c), (b, m2, c2)] _ 2 w (.inr ⟨g, 0, rfl, fun i hi => by
    have : i = 0 ∨ i = 1 := by simp at hi; omega
    rcases this with rfl | rfl
    · exact hc
    · exact hc2⟩) (by simp) hn hn2
theorem sh2_len {p : Nat} {n k : Int} {a b : Option Addr} {m c m2 c2 : Nat} (h : shB p n k [(a, m, c), (b, m2, c2)] = true) : m ≤ 300 ∧ m2 ≤ 300 := by
  unfold shB shL at h
  rw [Bool.and_eq_true] at h
  exact ⟨of_decide_eq_true h.1 0 (by simp), of_decide_eq_true h.1 1 (by simp)⟩
def SpRel (p : Nat) (l m : List Nat) (K : Nat) (w1 : World) (s i : Value) (wr : World) : Prop :=
  ∃ j : Nat, i = .int .i64 j ∧ j ≤ K ∧ s = .bool (sameK p l m j) ∧ Ext w1 wr

set_option maxRecDepth 100000 in
set_option maxHeartbeats 4000000 in
theorem CodeSeparated_w (p : Nat) (n k e : Int) (l m : List Nat) (a b : Option Addr) (c f : Nat) (w : World) (ha : Rd w a l) (hb : Rd w b m) (hn : n ≤ 9223372036854775807) (hn2 : -9223372036854775808 ≤ n) :
    Calls Try.prog 7 #[.agg #[.int .u64 p, .int .i64 n, .int .i64 k, .slice a l.length c, .slice b m.length f, .int .i64 e]] w fun e w' => e = .returned (.bool true) ∧ Ext w w' := by
  have HA := Lib.hid ha
  have HB := Lib.hid hb
  clear ha hb
  have h0 : (w.alloc (.cells #[.int .u64 p, .int .i64 n, .int .i64 k, .slice a l.length c, .slice b m.length f, .int .i64 e] 45)).cell? ⟨w.heap.size, 0, none⟩ = some (.int .u64 p) := by simp
  have h1 : (w.alloc (.cells #[.int .u64 p, .int .i64 n, .int .i64 k, .slice a l.length c, .slice b m.length f, .int .i64 e] 45)).cell? ⟨w.heap.size, 1, none⟩ = some (.int .i64 n) := by simp
  have h2 : (w.alloc (.cells #[.int .u64 p, .int .i64 n, .int .i64 k, .slice a l.length c, .slice b m.length f, .int .i64 e] 45)).cell? ⟨w.heap.size, 2, none⟩ = some (.int .i64 k) := by simp
  have h3 : (w.alloc (.cells #[.int .u64 p, .int .i64 n, .int .i64 k, .slice a l.length c, .slice b m.length f, .int .i64 e] 45)).cell? ⟨w.heap.size, 3, none⟩ = some (.slice a l.length c) := by simp
  have h4 : (w.alloc (.cells #[.int .u64 p, .int .i64 n, .int .i64 k, .slice a l.length c, .slice b m.length f, .int .i64 e] 45)).cell? ⟨w.heap.size, 4, none⟩ = some (.slice b m.length f) := by simp
  have h5 : (w.alloc (.cells #[.int .u64 p, .int .i64 n, .int .i64 k, .slice a l.length c, .slice b m.length f, .int .i64 e] 45)).cell? ⟨w.heap.size, 5, none⟩ = some (.int .i64 e) := by simp
  have RVC := fun w' => RCValid_c p n k w' hn hn2
  cases hc : cval p n k
  case false =>
    rw [hc] at RVC
    have HRVC := Lib.hid RVC
    clear RVC hc
    go_enter Try.func7, Try.ntmps7
    go_wp2_with fail
    refine (awake6_c _).mono ?_; rintro e w1 ⟨rfl, x0⟩
    replace h0 := x0.cell h0
    replace h1 := x0.cell h1
    replace h2 := x0.cell h2
    replace h3 := x0.cell h3
    replace h4 := x0.cell h4
    have X := x0.box
    clear x0
    go_wp2_with fail
    refine (HRVC.out _).mono ?_; rintro e wv ⟨rfl, xv⟩
    have d0 : wv.cell? ⟨w1.heap.size, 0, none⟩ = some (.int .u64 p) := xv.cell (by simp)
    have d1 : wv.cell? ⟨w1.heap.size, 1, none⟩ = some (.int .i64 n) := xv.cell (by simp)
    have d2 : wv.cell? ⟨w1.heap.size, 2, none⟩ = some (.int .i64 k) := xv.cell (by simp)
    replace h0 := xv.box.cell h0
    replace h1 := xv.box.cell h1
    replace h2 := xv.box.cell h2
    replace h3 := xv.box.cell h3
    replace h4 := xv.box.cell h4
    replace X := X.trans xv.box
    clear xv
    go_wp2_with fail
    go_ret
    exact ⟨rfl, X⟩
  rw [hc] at RVC
  have HRVC := Lib.hid RVC
  clear RVC
  cases hs : shB p n k [(a, l.length, c), (b, m.length, f)]
  case false =>
    have SC := Lib.hid (short2 p n k a b l.length c m.length f false hs hn hn2)
    clear hs hc
    go_enter Try.func7, Try.ntmps7
    go_wp2_with fail
    refine (awake6_c _).mono ?_; rintro e w1 ⟨rfl, x0⟩
    replace h0 := x0.cell h0
    replace h1 := x0.cell h1
    replace h2 := x0.cell h2
    replace h3 := x0.cell h3
    replace h4 := x0.cell h4
    have X := x0.box
    clear x0
    go_wp2_with fail
    refine (HRVC.out _).mono ?_; rintro e wv ⟨rfl, xv⟩
    have d0 : wv.cell? ⟨w1.heap.size, 0, none⟩ = some (.int .u64 p) := xv.cell (by simp)
    have d1 : wv.cell? ⟨w1.heap.size, 1, none⟩ = some (.int .i64 n) := xv.cell (by simp)
    have d2 : wv.cell? ⟨w1.heap.size, 2, none⟩ = some (.int .i64 k) := xv.cell (by simp)
    replace h0 := xv.box.cell h0
    replace h1 := xv.box.cell h1
    replace h2 := xv.box.cell h2
    replace h3 := xv.box.cell h3
    replace h4 := xv.box.cell h4
    replace X := X.trans xv.box
    clear xv
    go_wp2_with fail
    refine (SC.out _ _ (by simp) (by simp)).mono ?_; rintro e ws ⟨rfl, xs⟩
    replace h0 := xs.box.cell h0
    replace h1 := xs.box.cell h1
    replace h2 := xs.box.cell h2
    replace h3 := xs.box.cell h3
    replace h4 := xs.box.cell h4
    replace d0 := xs.box.cell d0
    replace d1 := xs.box.cell d1
    replace d2 := xs.box.cell d2
    replace X := X.trans xs.box
    clear xs
    go_wp2_with fail
    go_ret
    exact ⟨rfl, X⟩
  have SC := Lib.hid (short2 p n k a b l.length c m.length f true hs hn hn2)
  have hlen := sh2_len hs
  clear hs
  by_cases hl : (l.length : Int) ≤ k
  case neg =>
    have t1 : decide (k < (l.length : Int)) = true := decide_eq_true (by omega)
    clear hl hc hlen
    go_enter Try.func7, Try.ntmps7
    go_wp2_with fail
    refine (awake6_c _).mono ?_; rintro e w1 ⟨rfl, x0⟩
    replace h0 := x0.cell h0
    replace h1 := x0.cell h1
    replace h2 := x0.cell h2
    replace h3 := x0.cell h3
    replace h4 := x0.cell h4
    have X := x0.box
    clear x0
    go_wp2_with fail
    refine (HRVC.out _).mono ?_; rintro e wv ⟨rfl, xv⟩
    have d0 : wv.cell? ⟨w1.heap.size, 0, none⟩ = some (.int .u64 p) := xv.cell (by simp)
    have d1 : wv.cell? ⟨w1.heap.size, 1, none⟩ = some (.int .i64 n) := xv.cell (by simp)
    have d2 : wv.cell? ⟨w1.heap.size, 2, none⟩ = some (.int .i64 k) := xv.cell (by simp)
    replace h0 := xv.box.cell h0
    replace h1 := xv.box.cell h1
    replace h2 := xv.box.cell h2
    replace h3 := xv.box.cell h3
    replace h4 := xv.box.cell h4
    replace X := X.trans xv.box
    clear xv
    go_wp2_with fail
    refine (SC.out _ _ (by simp) (by simp)).mono ?_; rintro e ws ⟨rfl, xs⟩
    replace h0 := xs.box.cell h0
    replace h1 := xs.box.cell h1
    replace h2 := xs.box.cell h2
    replace h3 := xs.box.cell h3
    replace h4 := xs.box.cell h4
    replace d0 := xs.box.cell d0
    replace d1 := xs.box.cell d1
    replace d2 := xs.box.cell d2
    replace X := X.trans xs.box
    clear xs
    go_wp2_with fail
    go_ret
    exact ⟨rfl, X⟩
  have t1 : decide (k < (l.length : Int)) = false := decide_eq_false (by omega)
  by_cases hm : (m.length : Int) ≤ k
  case neg =>
    have t2 : decide (k < (m.length : Int)) = true := decide_eq_true (by omega)
    clear hl hm hc hlen
    go_enter Try.func7, Try.ntmps7
    go_wp2_with fail
    refine (awake6_c _).mono ?_; rintro e w1 ⟨rfl, x0⟩
    replace h0 := x0.cell h0
    replace h1 := x0.cell h1
    replace h2 := x0.cell h2
    replace h3 := x0.cell h3
    replace h4 := x0.cell h4
    have X := x0.box
    clear x0
    go_wp2_with fail
    refine (HRVC.out _).mono ?_; rintro e wv ⟨rfl, xv⟩
    have d0 : wv.cell? ⟨w1.heap.size, 0, none⟩ = some (.int .u64 p) := xv.cell (by simp)
    have d1 : wv.cell? ⟨w1.heap.size, 1, none⟩ = some (.int .i64 n) := xv.cell (by simp)
    have d2 : wv.cell? ⟨w1.heap.size, 2, none⟩ = some (.int .i64 k) := xv.cell (by simp)
    replace h0 := xv.box.cell h0
    replace h1 := xv.box.cell h1
    replace h2 := xv.box.cell h2
    replace h3 := xv.box.cell h3
    replace h4 := xv.box.cell h4
    replace X := X.trans xv.box
    clear xv
    go_wp2_with fail
    refine (SC.out _ _ (by simp) (by simp)).mono ?_; rintro e ws ⟨rfl, xs⟩
    replace h0 := xs.box.cell h0
    replace h1 := xs.box.cell h1
    replace h2 := xs.box.cell h2
    replace h3 := xs.box.cell h3
    replace h4 := xs.box.cell h4
    replace d0 := xs.box.cell d0
    replace d1 := xs.box.cell d1
    replace d2 := xs.box.cell d2
    replace X := X.trans xs.box
    clear xs
    go_wp2_with fail
    go_ret
    exact ⟨rfl, X⟩
  have t2 : decide (k < (m.length : Int)) = false := decide_eq_false (by omega)
  have hv := (cval_spec hc).1
  have hp := vld_bd hv
  have g0 : ((p : Int) == 0) = false := beq_eq_false_iff_ne.2 (by omega)
  have hv2 : ¬ vld p = false := by rw [hv]; simp
  obtain ⟨N, K, hN, hK, hN2, hK1, hKN⟩ : ∃ N K : Nat, n = (N : Int) ∧ k = (K : Int) ∧ N ≤ 256 ∧ 1 ≤ K ∧ K ≤ N := by
    obtain ⟨_, e, K, N, he, hN, h1, h2, h3, h4, _⟩ := cval_spec hc
    exact ⟨N, K, h1, h2, by rw [hN]; exact Nat.pow_le_pow_right (n := 2) (by omega) he, h3, h4⟩
  have hsep := separated (p := p) (N := N) (K := K) (by rw [← hN, ← hK]; exact hc) (l := l) (m := m) (by omega) (by omega)
  have OC1 := Lib.hid (fun w' (h : Rd w' a l) => own_c l a c w' h (by omega))
  have OC2 := Lib.hid (fun w' (h : Rd w' b m) => own_c m b f w' h (by omega))
  have EC1 := fun w' a' c' (h : Rd w' a' l) => Encode_c p n k l a' c' w' h (by omega) hn hn2
  have EC2 := fun w' a' c' (h : Rd w' a' m) => Encode_c p n k m a' c' w' h (by omega) hn hn2
  rw [show cEnc p n k l = (cword p n.toNat l, 0) from by unfold cEnc; rw [if_neg hv2, if_pos ⟨hc, hl⟩]] at EC1
  rw [show cEnc p n k m = (cword p n.toNat m, 0) from by unfold cEnc; rw [if_neg hv2, if_pos ⟨hc, hm⟩]] at EC2
  have hnN : n.toNat = N := by omega
  rw [hnN] at EC1 EC2
  have w1l : (cword p N l).length = N := by unfold cword reva; rw [tab_len]
  have w2l : (cword p N m).length = N := by unfold cword reva; rw [tab_len]
  obtain ⟨W1, hW1⟩ : ∃ W1, W1 = cword p N l := ⟨_, rfl⟩
  obtain ⟨W2, hW2⟩ : ∃ W2, W2 = cword p N m := ⟨_, rfl⟩
  rw [← hW1] at EC1 w1l hsep
  rw [← hW2] at EC2 w2l hsep
  have DC := fun w' a1 a2 c1 c2 (h1 : Rd w' a1 W1) (h2 : Rd w' a2 W2) => Distance_c W1 W2 a1 a2 c1 c2 w' h1 h2 (by omega) (by omega)
  have kd : dist W1 W2 ≤ 256 := by
    have := od_le W1 W2 (max W1.length W2.length)
    unfold dist; rw [w1l, w2l] at *; omega
  obtain ⟨dd, hdd⟩ : ∃ dd, dd = dist W1 W2 := ⟨_, rfl⟩
  rw [← hdd] at DC hsep kd
  have HEC1 := Lib.hid EC1
  have HEC2 := Lib.hid EC2
  have HDC := Lib.hid DC
  have HSEP := Lib.hid hsep
  have HK := Lib.hid hK
  have HN := Lib.hid hN
  have HLL := Lib.hid hlen
  have q0 : 0 < p := by omega
  have q4 : K ≤ 256 := by omega
  have q1 : 1 ≤ k := by omega
  have q2 : k ≤ n := by omega
  have q3 : n ≤ 256 := by omega
  have g1 : ((p : Int) != 0) = true := bne_iff_ne.2 (by omega)
  clear EC1 EC2 DC hsep hK hN hc hv hp hv2 hnN w1l w2l hW1 hW2 hdd hl hm hlen hKN hK1 hN2
  go_enter Try.func7, Try.ntmps7
  go_wp2_with fail
  refine (awake6_c _).mono ?_; rintro e w1 ⟨rfl, x0⟩
  replace h0 := x0.cell h0
  replace h1 := x0.cell h1
  replace h2 := x0.cell h2
  replace h3 := x0.cell h3
  replace h4 := x0.cell h4
  have X := x0.box
  clear x0
  go_wp2_with fail
  refine (HRVC.out _).mono ?_; rintro e wv ⟨rfl, xv⟩
  have d0 : wv.cell? ⟨w1.heap.size, 0, none⟩ = some (.int .u64 p) := xv.cell (by simp)
  have d1 : wv.cell? ⟨w1.heap.size, 1, none⟩ = some (.int .i64 n) := xv.cell (by simp)
  have d2 : wv.cell? ⟨w1.heap.size, 2, none⟩ = some (.int .i64 k) := xv.cell (by simp)
  replace h0 := xv.box.cell h0
  replace h1 := xv.box.cell h1
  replace h2 := xv.box.cell h2
  replace h3 := xv.box.cell h3
  replace h4 := xv.box.cell h4
  replace X := X.trans xv.box
  clear xv
  go_wp2_with fail
  refine (SC.out _ _ (by simp) (by simp)).mono ?_; rintro e ws ⟨rfl, xs⟩
  replace h0 := xs.box.cell h0
  replace h1 := xs.box.cell h1
  replace h2 := xs.box.cell h2
  replace h3 := xs.box.cell h3
  replace h4 := xs.box.cell h4
  replace d0 := xs.box.cell d0
  replace d1 := xs.box.cell d1
  replace d2 := xs.box.cell d2
  replace X := X.trans xs.box
  clear xs
  go_wp2_with fail
  refine region_facts [[], [(0, 47)], [], [(2, 49)], [(3, 50)], [(1, 48), (4, 51)], [(5, 52)], [(6, 46)], [(6, 46)], [(7, 53)], [(8, 54)]] [some 47, some 48, some 49, some 50, some 51, some 52, some 46, some 53, some 54, some 4, some 5] (by kernel_rfl) (by kernel_rfl) ?_
  with_reducible apply From.eq
  · intro w' hx; have d0x := hx.cell d0; have d1x := hx.cell d1; have d2x := hx.cell d2; have h3x := hx.cell h3; (try dsimp only [List.nil_append, List.cons_append]); dsimp only [DepsV, fat, eqF]; go_wp2; exact OpPost.some _ rfl rfl (Ext.refl _) rfl
  with_reducible apply From.eq
  · intro w' hx; have d0x := hx.cell d0; have d1x := hx.cell d1; have d2x := hx.cell d2; have h3x := hx.cell h3; (try dsimp only [List.nil_append, List.cons_append]); dsimp only [DepsV, fat, eqF]; rintro _ rfl; go_wp2_with (go_at_call 15; refine (of_c p n k _).mono ?_; rintro e w2 ⟨rfl, hb2⟩); exact OpPost.some _ rfl rfl hb2 rfl
  with_reducible apply From.eq
  · intro w' hx; have d0x := hx.cell d0; have d1x := hx.cell d1; have d2x := hx.cell d2; have h3x := hx.cell h3; (try dsimp only [List.nil_append, List.cons_append]); dsimp only [DepsV, fat, eqF]; go_wp2; exact OpPost.some _ rfl rfl (Ext.refl _) rfl
  with_reducible apply From.eq
  · intro w' hx; have d0x := hx.cell d0; have d1x := hx.cell d1; have d2x := hx.cell d2; have h3x := hx.cell h3; (try dsimp only [List.nil_append, List.cons_append]); dsimp only [DepsV, fat, eqF]; rintro _ rfl; go_wp2; exact OpPost.some _ rfl rfl (Ext.refl _) rfl
  refine From.step (OwnF w.heap.size l) (OwnF.mono) ?_ ?_
  · intro w' hx; have d0x := hx.cell d0; have d1x := hx.cell d1; have d2x := hx.cell d2; have h3x := hx.cell h3; (try dsimp only [List.nil_append, List.cons_append]); dsimp only [DepsV, fat, eqF]; rintro _ rfl; skip;
    go_wp2_with (go_at_call 16; refine (OC1.out _ (HA.out.ext (X.trans hx))).mono ?_; rintro e w2 ⟨v, rfl, ho, hn'⟩); exact OpPost.some _ rfl rfl hn' (ho.base (X.trans hx).size)
  refine From.step (IPF w.heap.size W1 0) (IPF.mono) ?_ ?_
  · intro w' hx; have d0x := hx.cell d0; have d1x := hx.cell d1; have d2x := hx.cell d2; have h3x := hx.cell h3; (try dsimp only [List.nil_append, List.cons_append]); dsimp only [DepsV, fat, eqF]; rintro _ rfl; rintro v4 h4; obtain ⟨a4, c4, rfl, _, _, r4⟩ := Own.form h4;
    go_wp2_with (go_at_call 14; refine (HEC1.out _ _ _ r4).mono ?_; rintro e w2 ⟨v, rfl, ho, hn'⟩); exact OpPost.some _ rfl rfl hn' ⟨v, rfl, ho.base (X.trans hx).size⟩
  refine From.step (IPF w.heap.size W1 0) (IPF.mono) ?_ ?_
  · intro w' hx; have d0x := hx.cell d0; have d1x := hx.cell d1; have d2x := hx.cell d2; have h3x := hx.cell h3; (try dsimp only [List.nil_append, List.cons_append]); dsimp only [DepsV, fat, eqF]; rintro v5 h5; go_wp2; exact OpPost.some _ rfl rfl (Ext.refl _) h5
  -- 7: t53
  refine From.step (OwnF w.heap.size W1) OwnF.mono ?_ ?_
  · intro w' hx; have d0x := hx.cell d0; have d1x := hx.cell d1; have d2x := hx.cell d2; have h3x := hx.cell h3; (try dsimp only [List.nil_append, List.cons_append]); dsimp only [DepsV, fat, eqF]; rintro v6_ h6_; obtain ⟨u, rfl, hu⟩ := h6_; go_wp2; exact OpPost.some _ rfl rfl (Ext.refl _) hu
  -- 8: t54
  with_reducible apply From.eq
  · intro w' hx; have d0x := hx.cell d0; have d1x := hx.cell d1; have d2x := hx.cell d2; have h3x := hx.cell h3; (try dsimp only [List.nil_append, List.cons_append]); dsimp only [DepsV, fat, eqF]; rintro v6_ h6_; obtain ⟨u, rfl, hu⟩ := h6_; go_wp2; exact OpPost.some _ rfl rfl (Ext.refl _) rfl
  -- 9: t4
  refine From.step (OwnF w.heap.size W1) OwnF.mono ?_ ?_
  · intro w' hx; have d0x := hx.cell d0; have d1x := hx.cell d1; have d2x := hx.cell d2; have h3x := hx.cell h3; (try dsimp only [List.nil_append, List.cons_append]); dsimp only [DepsV, fat, eqF]; rintro v7 h7; go_wp2; exact OpPost.some _ rfl rfl (Ext.refl _) h7
  with_reducible apply From.eq
  · intro w' hx; have d0x := hx.cell d0; have d1x := hx.cell d1; have d2x := hx.cell d2; have h3x := hx.cell h3; (try dsimp only [List.nil_append, List.cons_append]); dsimp only [DepsV, fat, eqF]; rintro _ rfl; go_wp2; exact OpPost.some _ rfl rfl (Ext.refl _) rfl
  with_reducible refine From.fin ?_
  intro w' hx
  (try dsimp only [List.nil_append, List.cons_append]); dsimp only [EndV, eqF]; rintro _ rfl _ rfl _ rfl _ rfl v4 h4 v5 h5 v6_ h6_ v7 h7 _ rfl va h9 _ rfl; simp only [Act.put, List.setIfInBounds_toArray, List.set_cons_zero, List.set_cons_succ]
  obtain ⟨ra_a, ra_c, hvv, _, _, ra⟩ := Own.form h9
  obtain ⟨u5, rfl, _⟩ := h5
  obtain ⟨u6, rfl, _⟩ := h6_
  clear h4 h7 h9
  subst hvv
  replace h0 := hx.cell h0
  replace h1 := hx.cell h1
  replace h2 := hx.cell h2
  replace h3 := hx.cell h3
  replace h4 := hx.cell h4
  replace d0 := hx.cell d0
  replace d1 := hx.cell d1
  replace d2 := hx.cell d2
  replace X := X.trans hx
  clear hx
  obtain ⟨w_6, rfl⟩ : ∃ q : World, q = w' := ⟨_, rfl⟩
  go_wp2_with fail
  refine region_facts [[], [(0, 56)], [], [(2, 58)], [(3, 59)], [(1, 57), (4, 60)], [(5, 61)], [(6, 55)], [(6, 55)], [(7, 62)], [(8, 63)]] [some 56, some 57, some 58, some 59, some 60, some 61, some 55, some 62, some 63, some 6, some 7] (by kernel_rfl) (by kernel_rfl) ?_
  with_reducible apply From.eq
  · intro w' hx; have d0x := hx.cell d0; have d1x := hx.cell d1; have d2x := hx.cell d2; have h4x := hx.cell h4; (try dsimp only [List.nil_append, List.cons_append]); dsimp only [DepsV, fat, eqF]; go_wp2; exact OpPost.some _ rfl rfl (Ext.refl _) rfl
  with_reducible apply From.eq
  · intro w' hx; have d0x := hx.cell d0; have d1x := hx.cell d1; have d2x := hx.cell d2; have h4x := hx.cell h4; (try dsimp only [List.nil_append, List.cons_append]); dsimp only [DepsV, fat, eqF]; rintro _ rfl; go_wp2_with (go_at_call 15; refine (of_c p n k _).mono ?_; rintro e w2 ⟨rfl, hb2⟩); exact OpPost.some _ rfl rfl hb2 rfl
  with_reducible apply From.eq
  · intro w' hx; have d0x := hx.cell d0; have d1x := hx.cell d1; have d2x := hx.cell d2; have h4x := hx.cell h4; (try dsimp only [List.nil_append, List.cons_append]); dsimp only [DepsV, fat, eqF]; go_wp2; exact OpPost.some _ rfl rfl (Ext.refl _) rfl
  with_reducible apply From.eq
  · intro w' hx; have d0x := hx.cell d0; have d1x := hx.cell d1; have d2x := hx.cell d2; have h4x := hx.cell h4; (try dsimp only [List.nil_append, List.cons_append]); dsimp only [DepsV, fat, eqF]; rintro _ rfl; go_wp2; exact OpPost.some _ rfl rfl (Ext.refl _) rfl
  refine From.step (OwnF w.heap.size m) (OwnF.mono) ?_ ?_
  · intro w' hx; have d0x := hx.cell d0; have d1x := hx.cell d1; have d2x := hx.cell d2; have h4x := hx.cell h4; (try dsimp only [List.nil_append, List.cons_append]); dsimp only [DepsV, fat, eqF]; rintro _ rfl; skip;
    go_wp2_with (go_at_call 16; refine (OC2.out _ (HB.out.ext (X.trans hx))).mono ?_; rintro e w2 ⟨v, rfl, ho, hn'⟩); exact OpPost.some _ rfl rfl hn' (ho.base (X.trans hx).size)
  refine From.step (IPF w.heap.size W2 0) (IPF.mono) ?_ ?_
  · intro w' hx; have d0x := hx.cell d0; have d1x := hx.cell d1; have d2x := hx.cell d2; have h4x := hx.cell h4; (try dsimp only [List.nil_append, List.cons_append]); dsimp only [DepsV, fat, eqF]; rintro _ rfl; rintro v4 h4; obtain ⟨a4, c4, rfl, _, _, r4⟩ := Own.form h4;
    go_wp2_with (go_at_call 14; refine (HEC2.out _ _ _ r4).mono ?_; rintro e w2 ⟨v, rfl, ho, hn'⟩); exact OpPost.some _ rfl rfl hn' ⟨v, rfl, ho.base (X.trans hx).size⟩
  refine From.step (IPF w.heap.size W2 0) (IPF.mono) ?_ ?_
  · intro w' hx; have d0x := hx.cell d0; have d1x := hx.cell d1; have d2x := hx.cell d2; have h4x := hx.cell h4; (try dsimp only [List.nil_append, List.cons_append]); dsimp only [DepsV, fat, eqF]; rintro v5 h5; go_wp2; exact OpPost.some _ rfl rfl (Ext.refl _) h5
  -- 7: t62
  refine From.step (OwnF w.heap.size W2) OwnF.mono ?_ ?_
  · intro w' hx; have d0x := hx.cell d0; have d1x := hx.cell d1; have d2x := hx.cell d2; have h4x := hx.cell h4; (try dsimp only [List.nil_append, List.cons_append]); dsimp only [DepsV, fat, eqF]; rintro v6_ h6_; obtain ⟨u, rfl, hu⟩ := h6_; go_wp2; exact OpPost.some _ rfl rfl (Ext.refl _) hu
  -- 8: t63
  with_reducible apply From.eq
  · intro w' hx; have d0x := hx.cell d0; have d1x := hx.cell d1; have d2x := hx.cell d2; have h4x := hx.cell h4; (try dsimp only [List.nil_append, List.cons_append]); dsimp only [DepsV, fat, eqF]; rintro v6_ h6_; obtain ⟨u, rfl, hu⟩ := h6_; go_wp2; exact OpPost.some _ rfl rfl (Ext.refl _) rfl
  -- 9: t6
  refine From.step (OwnF w.heap.size W2) OwnF.mono ?_ ?_
  · intro w' hx; have d0x := hx.cell d0; have d1x := hx.cell d1; have d2x := hx.cell d2; have h4x := hx.cell h4; (try dsimp only [List.nil_append, List.cons_append]); dsimp only [DepsV, fat, eqF]; rintro v7 h7; go_wp2; exact OpPost.some _ rfl rfl (Ext.refl _) h7
  with_reducible apply From.eq
  · intro w' hx; have d0x := hx.cell d0; have d1x := hx.cell d1; have d2x := hx.cell d2; have h4x := hx.cell h4; (try dsimp only [List.nil_append, List.cons_append]); dsimp only [DepsV, fat, eqF]; rintro _ rfl; go_wp2; exact OpPost.some _ rfl rfl (Ext.refl _) rfl
  with_reducible refine From.fin ?_
  intro w' hx
  (try dsimp only [List.nil_append, List.cons_append]); dsimp only [EndV, eqF]; rintro _ rfl _ rfl _ rfl _ rfl v4 h4 v5 h5 v6_ h6_ v7 h7 _ rfl vb h9 _ rfl; simp only [Act.put, List.setIfInBounds_toArray, List.set_cons_zero, List.set_cons_succ]
  obtain ⟨rb_a, rb_c, hvv, _, _, rb⟩ := Own.form h9
  obtain ⟨u5, rfl, _⟩ := h5
  obtain ⟨u6, rfl, _⟩ := h6_
  clear h4 h7 h9
  subst hvv
  replace h0 := hx.cell h0
  replace h1 := hx.cell h1
  replace h2 := hx.cell h2
  replace h3 := hx.cell h3
  replace h4 := hx.cell h4
  replace d0 := hx.cell d0
  replace d1 := hx.cell d1
  replace d2 := hx.cell d2
  replace ra := ra.ext hx
  replace X := X.trans hx
  clear hx
  obtain ⟨w_7, rfl⟩ : ∃ q : World, q = w' := ⟨_, rfl⟩
  have RA := Lib.hid ra
  have RB := Lib.hid rb
  clear ra rb
  have HX := Lib.hid X
  clear X
  go_wp2_with fail
  go_loopw [8, 72] (SpRel p l m K w_7) (fun _ i _ => K - (intOf i).toNat)
  case atStart => exact ⟨0, rfl, Nat.zero_le _, rfl, Ext.refl _⟩
  case round =>
    obtain ⟨j, rfl, hj, rfl, hext⟩ := hrel
    replace h0 := hext.cell h0
    replace h1 := hext.cell h1
    replace h2 := hext.cell h2
    replace h3 := hext.cell h3
    replace h4 := hext.cell h4
    replace d0 := hext.cell d0
    replace d1 := hext.cell d1
    replace d2 := hext.cell d2
    by_cases hlt : j < K
    · have t3 : decide ((j : Int) < k) = true := decide_eq_true (by rw [HK.out]; omega)
      have hsk : Hid (sameK p l m (j + 1) = (sameK p l m j && decide (fr p l j = fr p m j))) := Lib.hid rfl
      cases hS0 : sameK p l m j
      case false =>
        have hS := Lib.hid hS0
        clear hS0
        by_cases ja : j < l.length
        case pos =>
          by_cases jb : j < m.length
          case pos =>
            obtain ⟨ga, oa, rfl, hca⟩ := HA.out.at (by omega)
            have ca := (HX.out.trans hext).cell (hca j ja)
            have Ea : Hid (fr p l j = l.getD j 0 % p) := Lib.hid (fr_mod _ _ _)
            obtain ⟨x, hx0⟩ : ∃ x, x = l.getD j 0 := ⟨_, rfl⟩
            rw [← hx0] at ca Ea
            clear hca hx0
            obtain ⟨gb, ob, rfl, hcb⟩ := HB.out.at (by omega)
            have cb := (HX.out.trans hext).cell (hcb j jb)
            have Eb : Hid (fr p m j = m.getD j 0 % p) := Lib.hid (fr_mod _ _ _)
            obtain ⟨y, hy0⟩ : ∃ y, y = m.getD j 0 := ⟨_, rfl⟩
            rw [← hy0] at cb Eb
            clear hcb hy0
            have HEX := Lib.hid hext
            clear hext
            go_wp2_with fail
            refine region_facts [[], [(0, 80)], [], [(1, 81), (2, 82)], [(3, 83)], [], [(5, 85)], [(4, 84), (6, 86)], [(7, 87)]] [some 80, some 81, some 82, some 83, some 84, some 85, some 86, some 87, some 10] (by kernel_rfl) (by kernel_rfl) ?_
            with_reducible apply From.eq
            · intro w' hx; have h3x := hx.cell h3; have d0x := hx.cell d0; have cax := hx.cell ca; (try dsimp only [List.nil_append, List.cons_append]); dsimp only [DepsV, fat, eqF]; go_wp2; exact OpPost.some _ rfl rfl (Ext.refl _) rfl
            with_reducible apply From.eq
            · intro w' hx; have h3x := hx.cell h3; have d0x := hx.cell d0; have cax := hx.cell ca; (try dsimp only [List.nil_append, List.cons_append]); dsimp only [DepsV, fat, eqF]; rintro _ rfl; go_wp2; exact OpPost.some _ rfl rfl (Ext.refl _) rfl
            with_reducible apply From.eq
            · intro w' hx; have h3x := hx.cell h3; have d0x := hx.cell d0; have cax := hx.cell ca; (try dsimp only [List.nil_append, List.cons_append]); dsimp only [DepsV, fat, eqF]; go_wp2; exact OpPost.some _ rfl rfl (Ext.refl _) rfl
            with_reducible apply From.eq
            · intro w' hx; have h3x := hx.cell h3; have d0x := hx.cell d0; have cax := hx.cell ca; (try dsimp only [List.nil_append, List.cons_append]); dsimp only [DepsV, fat, eqF]; rintro _ rfl _ rfl; go_wp2; exact OpPost.some _ rfl rfl (Ext.refl _) rfl
            with_reducible apply From.eq
            · intro w' hx; have h3x := hx.cell h3; have d0x := hx.cell d0; have cax := hx.cell ca; (try dsimp only [List.nil_append, List.cons_append]); dsimp only [DepsV, fat, eqF]; rintro _ rfl; go_wp2; exact OpPost.some _ rfl rfl (Ext.refl _) rfl
            with_reducible apply From.eq
            · intro w' hx; have h3x := hx.cell h3; have d0x := hx.cell d0; have cax := hx.cell ca; (try dsimp only [List.nil_append, List.cons_append]); dsimp only [DepsV, fat, eqF]; go_wp2; exact OpPost.some _ rfl rfl (Ext.refl _) rfl
            with_reducible apply From.eq
            · intro w' hx; have h3x := hx.cell h3; have d0x := hx.cell d0; have cax := hx.cell ca; (try dsimp only [List.nil_append, List.cons_append]); dsimp only [DepsV, fat, eqF]; rintro _ rfl; go_wp2; exact OpPost.some _ rfl rfl (Ext.refl _) rfl
            with_reducible apply From.eq
            · intro w' hx; have h3x := hx.cell h3; have d0x := hx.cell d0; have cax := hx.cell ca; (try dsimp only [List.nil_append, List.cons_append]); dsimp only [DepsV, fat, eqF]; rintro _ rfl _ rfl; go_wp2; exact OpPost.some _ rfl rfl (Ext.refl _) rfl
            with_reducible apply From.eq
            · intro w' hx; have h3x := hx.cell h3; have d0x := hx.cell d0; have cax := hx.cell ca; (try dsimp only [List.nil_append, List.cons_append]); dsimp only [DepsV, fat, eqF]; rintro _ rfl; go_wp2; exact OpPost.some _ rfl rfl (Ext.refl _) rfl
            with_reducible refine From.fin ?_
            intro w' hx
            (try dsimp only [List.nil_append, List.cons_append]); dsimp only [EndV, eqF]; rintro _ rfl _ rfl _ rfl _ rfl _ rfl _ rfl _ rfl _ rfl _ rfl; simp only [Act.put, List.setIfInBounds_toArray, List.set_cons_zero, List.set_cons_succ]
            replace h0 := hx.cell h0
            replace h1 := hx.cell h1
            replace h2 := hx.cell h2
            replace h3 := hx.cell h3
            replace h4 := hx.cell h4
            replace d0 := hx.cell d0
            replace d1 := hx.cell d1
            replace d2 := hx.cell d2
            replace cb := hx.cell cb
            have HE16 := Lib.hid hx
            clear hx
            obtain ⟨u_16, rfl⟩ : ∃ q : World, q = w' := ⟨_, rfl⟩
            go_wp2_with fail
            refine region_facts [[], [(0, 93)], [], [(1, 94), (2, 95)], [(3, 96)], [], [(5, 98)], [(4, 97), (6, 99)], [(7, 100)]] [some 93, some 94, some 95, some 96, some 97, some 98, some 99, some 100, some 11] (by kernel_rfl) (by kernel_rfl) ?_
            with_reducible apply From.eq
            · intro w' hx; have h4x := hx.cell h4; have d0x := hx.cell d0; have cbx := hx.cell cb; (try dsimp only [List.nil_append, List.cons_append]); dsimp only [DepsV, fat, eqF]; go_wp2; exact OpPost.some _ rfl rfl (Ext.refl _) rfl
            with_reducible apply From.eq
            · intro w' hx; have h4x := hx.cell h4; have d0x := hx.cell d0; have cbx := hx.cell cb; (try dsimp only [List.nil_append, List.cons_append]); dsimp only [DepsV, fat, eqF]; rintro _ rfl; go_wp2; exact OpPost.some _ rfl rfl (Ext.refl _) rfl
            with_reducible apply From.eq
            · intro w' hx; have h4x := hx.cell h4; have d0x := hx.cell d0; have cbx := hx.cell cb; (try dsimp only [List.nil_append, List.cons_append]); dsimp only [DepsV, fat, eqF]; go_wp2; exact OpPost.some _ rfl rfl (Ext.refl _) rfl
            with_reducible apply From.eq
            · intro w' hx; have h4x := hx.cell h4; have d0x := hx.cell d0; have cbx := hx.cell cb; (try dsimp only [List.nil_append, List.cons_append]); dsimp only [DepsV, fat, eqF]; rintro _ rfl _ rfl; go_wp2; exact OpPost.some _ rfl rfl (Ext.refl _) rfl
            with_reducible apply From.eq
            · intro w' hx; have h4x := hx.cell h4; have d0x := hx.cell d0; have cbx := hx.cell cb; (try dsimp only [List.nil_append, List.cons_append]); dsimp only [DepsV, fat, eqF]; rintro _ rfl; go_wp2; exact OpPost.some _ rfl rfl (Ext.refl _) rfl
            with_reducible apply From.eq
            · intro w' hx; have h4x := hx.cell h4; have d0x := hx.cell d0; have cbx := hx.cell cb; (try dsimp only [List.nil_append, List.cons_append]); dsimp only [DepsV, fat, eqF]; go_wp2; exact OpPost.some _ rfl rfl (Ext.refl _) rfl
            with_reducible apply From.eq
            · intro w' hx; have h4x := hx.cell h4; have d0x := hx.cell d0; have cbx := hx.cell cb; (try dsimp only [List.nil_append, List.cons_append]); dsimp only [DepsV, fat, eqF]; rintro _ rfl; go_wp2; exact OpPost.some _ rfl rfl (Ext.refl _) rfl
            with_reducible apply From.eq
            · intro w' hx; have h4x := hx.cell h4; have d0x := hx.cell d0; have cbx := hx.cell cb; (try dsimp only [List.nil_append, List.cons_append]); dsimp only [DepsV, fat, eqF]; rintro _ rfl _ rfl; go_wp2; exact OpPost.some _ rfl rfl (Ext.refl _) rfl
            with_reducible apply From.eq
            · intro w' hx; have h4x := hx.cell h4; have d0x := hx.cell d0; have cbx := hx.cell cb; (try dsimp only [List.nil_append, List.cons_append]); dsimp only [DepsV, fat, eqF]; rintro _ rfl; go_wp2; exact OpPost.some _ rfl rfl (Ext.refl _) rfl
            with_reducible refine From.fin ?_
            intro w' hx
            (try dsimp only [List.nil_append, List.cons_append]); dsimp only [EndV, eqF]; rintro _ rfl _ rfl _ rfl _ rfl _ rfl _ rfl _ rfl _ rfl _ rfl; simp only [Act.put, List.setIfInBounds_toArray, List.set_cons_zero, List.set_cons_succ]
            replace h0 := hx.cell h0
            replace h1 := hx.cell h1
            replace h2 := hx.cell h2
            replace h3 := hx.cell h3
            replace h4 := hx.cell h4
            replace d0 := hx.cell d0
            replace d1 := hx.cell d1
            replace d2 := hx.cell d2
            have HE18 := Lib.hid hx
            clear hx
            obtain ⟨u_18, rfl⟩ : ∃ q : World, q = w' := ⟨_, rfl⟩
            go_wp2_with fail
            go_roundw
            case rel => exact ⟨j + 1, by go_num, by omega, by rw [hsk.out, Ea.out, Eb.out, hS.out]; simp [] <;> try omega, ((HEX.out.trans HE16.out).trans HE18.out)⟩
            case measure => simp [intOf]; omega
          case neg =>
            obtain ⟨ga, oa, rfl, hca⟩ := HA.out.at (by omega)
            have ca := (HX.out.trans hext).cell (hca j ja)
            have Ea : Hid (fr p l j = l.getD j 0 % p) := Lib.hid (fr_mod _ _ _)
            obtain ⟨x, hx0⟩ : ∃ x, x = l.getD j 0 := ⟨_, rfl⟩
            rw [← hx0] at ca Ea
            clear hca hx0
            have Eb : Hid (fr p m j = 0) := Lib.hid (by unfold fr; rw [if_neg jb])
            have HEX := Lib.hid hext
            clear hext
            go_wp2_with fail
            refine region_facts [[], [(0, 80)], [], [(1, 81), (2, 82)], [(3, 83)], [], [(5, 85)], [(4, 84), (6, 86)], [(7, 87)]] [some 80, some 81, some 82, some 83, some 84, some 85, some 86, some 87, some 10] (by kernel_rfl) (by kernel_rfl) ?_
            with_reducible apply From.eq
            · intro w' hx; have h3x := hx.cell h3; have d0x := hx.cell d0; have cax := hx.cell ca; (try dsimp only [List.nil_append, List.cons_append]); dsimp only [DepsV, fat, eqF]; go_wp2; exact OpPost.some _ rfl rfl (Ext.refl _) rfl
            with_reducible apply From.eq
            · intro w' hx; have h3x := hx.cell h3; have d0x := hx.cell d0; have cax := hx.cell ca; (try dsimp only [List.nil_append, List.cons_append]); dsimp only [DepsV, fat, eqF]; rintro _ rfl; go_wp2; exact OpPost.some _ rfl rfl (Ext.refl _) rfl
            with_reducible apply From.eq
            · intro w' hx; have h3x := hx.cell h3; have d0x := hx.cell d0; have cax := hx.cell ca; (try dsimp only [List.nil_append, List.cons_append]); dsimp only [DepsV, fat, eqF]; go_wp2; exact OpPost.some _ rfl rfl (Ext.refl _) rfl
            with_reducible apply From.eq
            · intro w' hx; have h3x := hx.cell h3; have d0x := hx.cell d0; have cax := hx.cell ca; (try dsimp only [List.nil_append, List.cons_append]); dsimp only [DepsV, fat, eqF]; rintro _ rfl _ rfl; go_wp2; exact OpPost.some _ rfl rfl (Ext.refl _) rfl
            with_reducible apply From.eq
            · intro w' hx; have h3x := hx.cell h3; have d0x := hx.cell d0; have cax := hx.cell ca; (try dsimp only [List.nil_append, List.cons_append]); dsimp only [DepsV, fat, eqF]; rintro _ rfl; go_wp2; exact OpPost.some _ rfl rfl (Ext.refl _) rfl
            with_reducible apply From.eq
            · intro w' hx; have h3x := hx.cell h3; have d0x := hx.cell d0; have cax := hx.cell ca; (try dsimp only [List.nil_append, List.cons_append]); dsimp only [DepsV, fat, eqF]; go_wp2; exact OpPost.some _ rfl rfl (Ext.refl _) rfl
            with_reducible apply From.eq
            · intro w' hx; have h3x := hx.cell h3; have d0x := hx.cell d0; have cax := hx.cell ca; (try dsimp only [List.nil_append, List.cons_append]); dsimp only [DepsV, fat, eqF]; rintro _ rfl; go_wp2; exact OpPost.some _ rfl rfl (Ext.refl _) rfl
            with_reducible apply From.eq
            · intro w' hx; have h3x := hx.cell h3; have d0x := hx.cell d0; have cax := hx.cell ca; (try dsimp only [List.nil_append, List.cons_append]); dsimp only [DepsV, fat, eqF]; rintro _ rfl _ rfl; go_wp2; exact OpPost.some _ rfl rfl (Ext.refl _) rfl
            with_reducible apply From.eq
            · intro w' hx; have h3x := hx.cell h3; have d0x := hx.cell d0; have cax := hx.cell ca; (try dsimp only [List.nil_append, List.cons_append]); dsimp only [DepsV, fat, eqF]; rintro _ rfl; go_wp2; exact OpPost.some _ rfl rfl (Ext.refl _) rfl
            with_reducible refine From.fin ?_
            intro w' hx
            (try dsimp only [List.nil_append, List.cons_append]); dsimp only [EndV, eqF]; rintro _ rfl _ rfl _ rfl _ rfl _ rfl _ rfl _ rfl _ rfl _ rfl; simp only [Act.put, List.setIfInBounds_toArray, List.set_cons_zero, List.set_cons_succ]
            replace h0 := hx.cell h0
            replace h1 := hx.cell h1
            replace h2 := hx.cell h2
            replace h3 := hx.cell h3
            replace h4 := hx.cell h4
            replace d0 := hx.cell d0
            replace d1 := hx.cell d1
            replace d2 := hx.cell d2
            have HE16 := Lib.hid hx
            clear hx
            obtain ⟨u_16, rfl⟩ : ∃ q : World, q = w' := ⟨_, rfl⟩
            go_wp2_with fail
            go_roundw
            case rel => exact ⟨j + 1, by go_num, by omega, by rw [hsk.out, Ea.out, Eb.out, hS.out]; simp [] <;> try omega, (HEX.out.trans HE16.out)⟩
            case measure => simp [intOf]; omega
        case neg =>
          by_cases jb : j < m.length
          case pos =>
            have Ea : Hid (fr p l j = 0) := Lib.hid (by unfold fr; rw [if_neg ja])
            obtain ⟨gb, ob, rfl, hcb⟩ := HB.out.at (by omega)
            have cb := (HX.out.trans hext).cell (hcb j jb)
            have Eb : Hid (fr p m j = m.getD j 0 % p) := Lib.hid (fr_mod _ _ _)
            obtain ⟨y, hy0⟩ : ∃ y, y = m.getD j 0 := ⟨_, rfl⟩
            rw [← hy0] at cb Eb
            clear hcb hy0
            have HEX := Lib.hid hext
            clear hext
            go_wp2_with fail
            refine region_facts [[], [(0, 93)], [], [(1, 94), (2, 95)], [(3, 96)], [], [(5, 98)], [(4, 97), (6, 99)], [(7, 100)]] [some 93, some 94, some 95, some 96, some 97, some 98, some 99, some 100, some 11] (by kernel_rfl) (by kernel_rfl) ?_
            with_reducible apply From.eq
            · intro w' hx; have h4x := hx.cell h4; have d0x := hx.cell d0; have cbx := hx.cell cb; (try dsimp only [List.nil_append, List.cons_append]); dsimp only [DepsV, fat, eqF]; go_wp2; exact OpPost.some _ rfl rfl (Ext.refl _) rfl
            with_reducible apply From.eq
            · intro w' hx; have h4x := hx.cell h4; have d0x := hx.cell d0; have cbx := hx.cell cb; (try dsimp only [List.nil_append, List.cons_append]); dsimp only [DepsV, fat, eqF]; rintro _ rfl; go_wp2; exact OpPost.some _ rfl rfl (Ext.refl _) rfl
            with_reducible apply From.eq
            · intro w' hx; have h4x := hx.cell h4; have d0x := hx.cell d0; have cbx := hx.cell cb; (try dsimp only [List.nil_append, List.cons_append]); dsimp only [DepsV, fat, eqF]; go_wp2; exact OpPost.some _ rfl rfl (Ext.refl _) rfl
            with_reducible apply From.eq
            · intro w' hx; have h4x := hx.cell h4; have d0x := hx.cell d0; have cbx := hx.cell cb; (try dsimp only [List.nil_append, List.cons_append]); dsimp only [DepsV, fat, eqF]; rintro _ rfl _ rfl; go_wp2; exact OpPost.some _ rfl rfl (Ext.refl _) rfl
            with_reducible apply From.eq
            · intro w' hx; have h4x := hx.cell h4; have d0x := hx.cell d0; have cbx := hx.cell cb; (try dsimp only [List.nil_append, List.cons_append]); dsimp only [DepsV, fat, eqF]; rintro _ rfl; go_wp2; exact OpPost.some _ rfl rfl (Ext.refl _) rfl
            with_reducible apply From.eq
            · intro w' hx; have h4x := hx.cell h4; have d0x := hx.cell d0; have cbx := hx.cell cb; (try dsimp only [List.nil_append, List.cons_append]); dsimp only [DepsV, fat, eqF]; go_wp2; exact OpPost.some _ rfl rfl (Ext.refl _) rfl
            with_reducible apply From.eq
            · intro w' hx; have h4x := hx.cell h4; have d0x := hx.cell d0; have cbx := hx.cell cb; (try dsimp only [List.nil_append, List.cons_append]); dsimp only [DepsV, fat, eqF]; rintro _ rfl; go_wp2; exact OpPost.some _ rfl rfl (Ext.refl _) rfl
            with_reducible apply From.eq
            · intro w' hx; have h4x := hx.cell h4; have d0x := hx.cell d0; have cbx := hx.cell cb; (try dsimp only [List.nil_append, List.cons_append]); dsimp only [DepsV, fat, eqF]; rintro _ rfl _ rfl; go_wp2; exact OpPost.some _ rfl rfl (Ext.refl _) rfl
            with_reducible apply From.eq
            · intro w' hx; have h4x := hx.cell h4; have d0x := hx.cell d0; have cbx := hx.cell cb; (try dsimp only [List.nil_append, List.cons_append]); dsimp only [DepsV, fat, eqF]; rintro _ rfl; go_wp2; exact OpPost.some _ rfl rfl (Ext.refl _) rfl
            with_reducible refine From.fin ?_
            intro w' hx
            (try dsimp only [List.nil_append, List.cons_append]); dsimp only [EndV, eqF]; rintro _ rfl _ rfl _ rfl _ rfl _ rfl _ rfl _ rfl _ rfl _ rfl; simp only [Act.put, List.setIfInBounds_toArray, List.set_cons_zero, List.set_cons_succ]
            replace h0 := hx.cell h0
            replace h1 := hx.cell h1
            replace h2 := hx.cell h2
            replace h3 := hx.cell h3
            replace h4 := hx.cell h4
            replace d0 := hx.cell d0
            replace d1 := hx.cell d1
            replace d2 := hx.cell d2
            have HE18 := Lib.hid hx
            clear hx
            obtain ⟨u_18, rfl⟩ : ∃ q : World, q = w' := ⟨_, rfl⟩
            go_wp2_with fail
            go_roundw
            case rel => exact ⟨j + 1, by go_num, by omega, by rw [hsk.out, Ea.out, Eb.out, hS.out]; simp [] <;> try omega, (HEX.out.trans HE18.out)⟩
            case measure => simp [intOf]; omega
          case neg =>
            have Ea : Hid (fr p l j = 0) := Lib.hid (by unfold fr; rw [if_neg ja])
            have Eb : Hid (fr p m j = 0) := Lib.hid (by unfold fr; rw [if_neg jb])
            have HEX := Lib.hid hext
            clear hext
            go_wp2_with fail
            go_roundw
            case rel => exact ⟨j + 1, by go_num, by omega, by rw [hsk.out, Ea.out, Eb.out, hS.out]; simp [] <;> try omega, HEX.out⟩
            case measure => simp [intOf]; omega
      case true =>
        have hS := Lib.hid hS0
        clear hS0
        by_cases ja : j < l.length
        case pos =>
          by_cases jb : j < m.length
          case pos =>
            obtain ⟨ga, oa, rfl, hca⟩ := HA.out.at (by omega)
            have ca := (HX.out.trans hext).cell (hca j ja)
            have Ea : Hid (fr p l j = l.getD j 0 % p) := Lib.hid (fr_mod _ _ _)
            obtain ⟨x, hx0⟩ : ∃ x, x = l.getD j 0 := ⟨_, rfl⟩
            rw [← hx0] at ca Ea
            clear hca hx0
            obtain ⟨gb, ob, rfl, hcb⟩ := HB.out.at (by omega)
            have cb := (HX.out.trans hext).cell (hcb j jb)
            have Eb : Hid (fr p m j = m.getD j 0 % p) := Lib.hid (fr_mod _ _ _)
            obtain ⟨y, hy0⟩ : ∃ y, y = m.getD j 0 := ⟨_, rfl⟩
            rw [← hy0] at cb Eb
            clear hcb hy0
            have HEX := Lib.hid hext
            clear hext
            go_wp2_with fail
            refine region_facts [[], [(0, 80)], [], [(1, 81), (2, 82)], [(3, 83)], [], [(5, 85)], [(4, 84), (6, 86)], [(7, 87)]] [some 80, some 81, some 82, some 83, some 84, some 85, some 86, some 87, some 10] (by kernel_rfl) (by kernel_rfl) ?_
            with_reducible apply From.eq
            · intro w' hx; have h3x := hx.cell h3; have d0x := hx.cell d0; have cax := hx.cell ca; (try dsimp only [List.nil_append, List.cons_append]); dsimp only [DepsV, fat, eqF]; go_wp2; exact OpPost.some _ rfl rfl (Ext.refl _) rfl
            with_reducible apply From.eq
            · intro w' hx; have h3x := hx.cell h3; have d0x := hx.cell d0; have cax := hx.cell ca; (try dsimp only [List.nil_append, List.cons_append]); dsimp only [DepsV, fat, eqF]; rintro _ rfl; go_wp2; exact OpPost.some _ rfl rfl (Ext.refl _) rfl
            with_reducible apply From.eq
            · intro w' hx; have h3x := hx.cell h3; have d0x := hx.cell d0; have cax := hx.cell ca; (try dsimp only [List.nil_append, List.cons_append]); dsimp only [DepsV, fat, eqF]; go_wp2; exact OpPost.some _ rfl rfl (Ext.refl _) rfl
            with_reducible apply From.eq
            · intro w' hx; have h3x := hx.cell h3; have d0x := hx.cell d0; have cax := hx.cell ca; (try dsimp only [List.nil_append, List.cons_append]); dsimp only [DepsV, fat, eqF]; rintro _ rfl _ rfl; go_wp2; exact OpPost.some _ rfl rfl (Ext.refl _) rfl
            with_reducible apply From.eq
            · intro w' hx; have h3x := hx.cell h3; have d0x := hx.cell d0; have cax := hx.cell ca; (try dsimp only [List.nil_append, List.cons_append]); dsimp only [DepsV, fat, eqF]; rintro _ rfl; go_wp2; exact OpPost.some _ rfl rfl (Ext.refl _) rfl
            with_reducible apply From.eq
            · intro w' hx; have h3x := hx.cell h3; have d0x := hx.cell d0; have cax := hx.cell ca; (try dsimp only [List.nil_append, List.cons_append]); dsimp only [DepsV, fat, eqF]; go_wp2; exact OpPost.some _ rfl rfl (Ext.refl _) rfl
            with_reducible apply From.eq
            · intro w' hx; have h3x := hx.cell h3; have d0x := hx.cell d0; have cax := hx.cell ca; (try dsimp only [List.nil_append, List.cons_append]); dsimp only [DepsV, fat, eqF]; rintro _ rfl; go_wp2; exact OpPost.some _ rfl rfl (Ext.refl _) rfl
            with_reducible apply From.eq
            · intro w' hx; have h3x := hx.cell h3; have d0x := hx.cell d0; have cax := hx.cell ca; (try dsimp only [List.nil_append, List.cons_append]); dsimp only [DepsV, fat, eqF]; rintro _ rfl _ rfl; go_wp2; exact OpPost.some _ rfl rfl (Ext.refl _) rfl
            with_reducible apply From.eq
            · intro w' hx; have h3x := hx.cell h3; have d0x := hx.cell d0; have cax := hx.cell ca; (try dsimp only [List.nil_append, List.cons_append]); dsimp only [DepsV, fat, eqF]; rintro _ rfl; go_wp2; exact OpPost.some _ rfl rfl (Ext.refl _) rfl
            with_reducible refine From.fin ?_
            intro w' hx
            (try dsimp only [List.nil_append, List.cons_append]); dsimp only [EndV, eqF]; rintro _ rfl _ rfl _ rfl _ rfl _ rfl _ rfl _ rfl _ rfl _ rfl; simp only [Act.put, List.setIfInBounds_toArray, List.set_cons_zero, List.set_cons_succ]
            replace h0 := hx.cell h0
            replace h1 := hx.cell h1
            replace h2 := hx.cell h2
            replace h3 := hx.cell h3
            replace h4 := hx.cell h4
            replace d0 := hx.cell d0
            replace d1 := hx.cell d1
            replace d2 := hx.cell d2
            replace cb := hx.cell cb
            have HE16 := Lib.hid hx
            clear hx
            obtain ⟨u_16, rfl⟩ : ∃ q : World, q = w' := ⟨_, rfl⟩
            go_wp2_with fail
            refine region_facts [[], [(0, 93)], [], [(1, 94), (2, 95)], [(3, 96)], [], [(5, 98)], [(4, 97), (6, 99)], [(7, 100)]] [some 93, some 94, some 95, some 96, some 97, some 98, some 99, some 100, some 11] (by kernel_rfl) (by kernel_rfl) ?_
            with_reducible apply From.eq
            · intro w' hx; have h4x := hx.cell h4; have d0x := hx.cell d0; have cbx := hx.cell cb; (try dsimp only [List.nil_append, List.cons_append]); dsimp only [DepsV, fat, eqF]; go_wp2; exact OpPost.some _ rfl rfl (Ext.refl _) rfl
            with_reducible apply From.eq
            · intro w' hx; have h4x := hx.cell h4; have d0x := hx.cell d0; have cbx := hx.cell cb; (try dsimp only [List.nil_append, List.cons_append]); dsimp only [DepsV, fat, eqF]; rintro _ rfl; go_wp2; exact OpPost.some _ rfl rfl (Ext.refl _) rfl
            with_reducible apply From.eq
            · intro w' hx; have h4x := hx.cell h4; have d0x := hx.cell d0; have cbx := hx.cell cb; (try dsimp only [List.nil_append, List.cons_append]); dsimp only [DepsV, fat, eqF]; go_wp2; exact OpPost.some _ rfl rfl (Ext.refl _) rfl
            with_reducible apply From.eq
            · intro w' hx; have h4x := hx.cell h4; have d0x := hx.cell d0; have cbx := hx.cell cb; (try dsimp only [List.nil_append, List.cons_append]); dsimp only [DepsV, fat, eqF]; rintro _ rfl _ rfl; go_wp2; exact OpPost.some _ rfl rfl (Ext.refl _) rfl
            with_reducible apply From.eq
            · intro w' hx; have h4x := hx.cell h4; have d0x := hx.cell d0; have cbx := hx.cell cb; (try dsimp only [List.nil_append, List.cons_append]); dsimp only [DepsV, fat, eqF]; rintro _ rfl; go_wp2; exact OpPost.some _ rfl rfl (Ext.refl _) rfl
            with_reducible apply From.eq
            · intro w' hx; have h4x := hx.cell h4; have d0x := hx.cell d0; have cbx := hx.cell cb; (try dsimp only [List.nil_append, List.cons_append]); dsimp only [DepsV, fat, eqF]; go_wp2; exact OpPost.some _ rfl rfl (Ext.refl _) rfl
            with_reducible apply From.eq
            · intro w' hx; have h4x := hx.cell h4; have d0x := hx.cell d0; have cbx := hx.cell cb; (try dsimp only [List.nil_append, List.cons_append]); dsimp only [DepsV, fat, eqF]; rintro _ rfl; go_wp2; exact OpPost.some _ rfl rfl (Ext.refl _) rfl
            with_reducible apply From.eq
            · intro w' hx; have h4x := hx.cell h4; have d0x := hx.cell d0; have cbx := hx.cell cb; (try dsimp only [List.nil_append, List.cons_append]); dsimp only [DepsV, fat, eqF]; rintro _ rfl _ rfl; go_wp2; exact OpPost.some _ rfl rfl (Ext.refl _) rfl
            with_reducible apply From.eq
            · intro w' hx; have h4x := hx.cell h4; have d0x := hx.cell d0; have cbx := hx.cell cb; (try dsimp only [List.nil_append, List.cons_append]); dsimp only [DepsV, fat, eqF]; rintro _ rfl; go_wp2; exact OpPost.some _ rfl rfl (Ext.refl _) rfl
            with_reducible refine From.fin ?_
            intro w' hx
            (try dsimp only [List.nil_append, List.cons_append]); dsimp only [EndV, eqF]; rintro _ rfl _ rfl _ rfl _ rfl _ rfl _ rfl _ rfl _ rfl _ rfl; simp only [Act.put, List.setIfInBounds_toArray, List.set_cons_zero, List.set_cons_succ]
            replace h0 := hx.cell h0
            replace h1 := hx.cell h1
            replace h2 := hx.cell h2
            replace h3 := hx.cell h3
            replace h4 := hx.cell h4
            replace d0 := hx.cell d0
            replace d1 := hx.cell d1
            replace d2 := hx.cell d2
            have HE18 := Lib.hid hx
            clear hx
            obtain ⟨u_18, rfl⟩ : ∃ q : World, q = w' := ⟨_, rfl⟩
            go_wp2_with fail
            go_roundw
            case rel => exact ⟨j + 1, by go_num, by omega, by rw [hsk.out, Ea.out, Eb.out, hS.out]; simp [Bool.beq_eq_decide_eq] <;> try omega, ((HEX.out.trans HE16.out).trans HE18.out)⟩
            case measure => simp [intOf]; omega
          case neg =>
            obtain ⟨ga, oa, rfl, hca⟩ := HA.out.at (by omega)
            have ca := (HX.out.trans hext).cell (hca j ja)
            have Ea : Hid (fr p l j = l.getD j 0 % p) := Lib.hid (fr_mod _ _ _)
            obtain ⟨x, hx0⟩ : ∃ x, x = l.getD j 0 := ⟨_, rfl⟩
            rw [← hx0] at ca Ea
            clear hca hx0
            have Eb : Hid (fr p m j = 0) := Lib.hid (by unfold fr; rw [if_neg jb])
            have HEX := Lib.hid hext
            clear hext
            go_wp2_with fail
            refine region_facts [[], [(0, 80)], [], [(1, 81), (2, 82)], [(3, 83)], [], [(5, 85)], [(4, 84), (6, 86)], [(7, 87)]] [some 80, some 81, some 82, some 83, some 84, some 85, some 86, some 87, some 10] (by kernel_rfl) (by kernel_rfl) ?_
            with_reducible apply From.eq
            · intro w' hx; have h3x := hx.cell h3; have d0x := hx.cell d0; have cax := hx.cell ca; (try dsimp only [List.nil_append, List.cons_append]); dsimp only [DepsV, fat, eqF]; go_wp2; exact OpPost.some _ rfl rfl (Ext.refl _) rfl
            with_reducible apply From.eq
            · intro w' hx; have h3x := hx.cell h3; have d0x := hx.cell d0; have cax := hx.cell ca; (try dsimp only [List.nil_append, List.cons_append]); dsimp only [DepsV, fat, eqF]; rintro _ rfl; go_wp2; exact OpPost.some _ rfl rfl (Ext.refl _) rfl
            with_reducible apply From.eq
            · intro w' hx; have h3x := hx.cell h3; have d0x := hx.cell d0; have cax := hx.cell ca; (try dsimp only [List.nil_append, List.cons_append]); dsimp only [DepsV, fat, eqF]; go_wp2; exact OpPost.some _ rfl rfl (Ext.refl _) rfl
            with_reducible apply From.eq
            · intro w' hx; have h3x := hx.cell h3; have d0x := hx.cell d0; have cax := hx.cell ca; (try dsimp only [List.nil_append, List.cons_append]); dsimp only [DepsV, fat, eqF]; rintro _ rfl _ rfl; go_wp2; exact OpPost.some _ rfl rfl (Ext.refl _) rfl
            with_reducible apply From.eq
            · intro w' hx; have h3x := hx.cell h3; have d0x := hx.cell d0; have cax := hx.cell ca; (try dsimp only [List.nil_append, List.cons_append]); dsimp only [DepsV, fat, eqF]; rintro _ rfl; go_wp2; exact OpPost.some _ rfl rfl (Ext.refl _) rfl
            with_reducible apply From.eq
            · intro w' hx; have h3x := hx.cell h3; have d0x := hx.cell d0; have cax := hx.cell ca; (try dsimp only [List.nil_append, List.cons_append]); dsimp only [DepsV, fat, eqF]; go_wp2; exact OpPost.some _ rfl rfl (Ext.refl _) rfl
            with_reducible apply From.eq
            · intro w' hx; have h3x := hx.cell h3; have d0x := hx.cell d0; have cax := hx.cell ca; (try dsimp only [List.nil_append, List.cons_append]); dsimp only [DepsV, fat, eqF]; rintro _ rfl; go_wp2; exact OpPost.some _ rfl rfl (Ext.refl _) rfl
            with_reducible apply From.eq
            · intro w' hx; have h3x := hx.cell h3; have d0x := hx.cell d0; have cax := hx.cell ca; (try dsimp only [List.nil_append, List.cons_append]); dsimp only [DepsV, fat, eqF]; rintro _ rfl _ rfl; go_wp2; exact OpPost.some _ rfl rfl (Ext.refl _) rfl
            with_reducible apply From.eq
            · intro w' hx; have h3x := hx.cell h3; have d0x := hx.cell d0; have cax := hx.cell ca; (try dsimp only [List.nil_append, List.cons_append]); dsimp only [DepsV, fat, eqF]; rintro _ rfl; go_wp2; exact OpPost.some _ rfl rfl (Ext.refl _) rfl
            with_reducible refine From.fin ?_
            intro w' hx
            (try dsimp only [List.nil_append, List.cons_append]); dsimp only [EndV, eqF]; rintro _ rfl _ rfl _ rfl _ rfl _ rfl _ rfl _ rfl _ rfl _ rfl; simp only [Act.put, List.setIfInBounds_toArray, List.set_cons_zero, List.set_cons_succ]
            replace h0 := hx.cell h0
            replace h1 := hx.cell h1
            replace h2 := hx.cell h2
            replace h3 := hx.cell h3
            replace h4 := hx.cell h4
            replace d0 := hx.cell d0
            replace d1 := hx.cell d1
            replace d2 := hx.cell d2
            have HE16 := Lib.hid hx
            clear hx
            obtain ⟨u_16, rfl⟩ : ∃ q : World, q = w' := ⟨_, rfl⟩
            go_wp2_with fail
            go_roundw
            case rel => exact ⟨j + 1, by go_num, by omega, by rw [hsk.out, Ea.out, Eb.out, hS.out]; simp [Bool.beq_eq_decide_eq] <;> try omega, (HEX.out.trans HE16.out)⟩
            case measure => simp [intOf]; omega
        case neg =>
          by_cases jb : j < m.length
          case pos =>
            have Ea : Hid (fr p l j = 0) := Lib.hid (by unfold fr; rw [if_neg ja])
            obtain ⟨gb, ob, rfl, hcb⟩ := HB.out.at (by omega)
            have cb := (HX.out.trans hext).cell (hcb j jb)
            have Eb : Hid (fr p m j = m.getD j 0 % p) := Lib.hid (fr_mod _ _ _)
            obtain ⟨y, hy0⟩ : ∃ y, y = m.getD j 0 := ⟨_, rfl⟩
            rw [← hy0] at cb Eb
            clear hcb hy0
            have HEX := Lib.hid hext
            clear hext
            go_wp2_with fail
            refine region_facts [[], [(0, 93)], [], [(1, 94), (2, 95)], [(3, 96)], [], [(5, 98)], [(4, 97), (6, 99)], [(7, 100)]] [some 93, some 94, some 95, some 96, some 97, some 98, some 99, some 100, some 11] (by kernel_rfl) (by kernel_rfl) ?_
            with_reducible apply From.eq
            · intro w' hx; have h4x := hx.cell h4; have d0x := hx.cell d0; have cbx := hx.cell cb; (try dsimp only [List.nil_append, List.cons_append]); dsimp only [DepsV, fat, eqF]; go_wp2; exact OpPost.some _ rfl rfl (Ext.refl _) rfl
            with_reducible apply From.eq
            · intro w' hx; have h4x := hx.cell h4; have d0x := hx.cell d0; have cbx := hx.cell cb; (try dsimp only [List.nil_append, List.cons_append]); dsimp only [DepsV, fat, eqF]; rintro _ rfl; go_wp2; exact OpPost.some _ rfl rfl (Ext.refl _) rfl
            with_reducible apply From.eq
            · intro w' hx; have h4x := hx.cell h4; have d0x := hx.cell d0; have cbx := hx.cell cb; (try dsimp only [List.nil_append, List.cons_append]); dsimp only [DepsV, fat, eqF]; go_wp2; exact OpPost.some _ rfl rfl (Ext.refl _) rfl
            with_reducible apply From.eq
            · intro w' hx; have h4x := hx.cell h4; have d0x := hx.cell d0; have cbx := hx.cell cb; (try dsimp only [List.nil_append, List.cons_append]); dsimp only [DepsV, fat, eqF]; rintro _ rfl _ rfl; go_wp2; exact OpPost.some _ rfl rfl (Ext.refl _) rfl
            with_reducible apply From.eq
            · intro w' hx; have h4x := hx.cell h4; have d0x := hx.cell d0; have cbx := hx.cell cb; (try dsimp only [List.nil_append, List.cons_append]); dsimp only [DepsV, fat, eqF]; rintro _ rfl; go_wp2; exact OpPost.some _ rfl rfl (Ext.refl _) rfl
            with_reducible apply From.eq
            · intro w' hx; have h4x := hx.cell h4; have d0x := hx.cell d0; have cbx := hx.cell cb; (try dsimp only [List.nil_append, List.cons_append]); dsimp only [DepsV, fat, eqF]; go_wp2; exact OpPost.some _ rfl rfl (Ext.refl _) rfl
            with_reducible apply From.eq
            · intro w' hx; have h4x := hx.cell h4; have d0x := hx.cell d0; have cbx := hx.cell cb; (try dsimp only [List.nil_append, List.cons_append]); dsimp only [DepsV, fat, eqF]; rintro _ rfl; go_wp2; exact OpPost.some _ rfl rfl (Ext.refl _) rfl
            with_reducible apply From.eq
            · intro w' hx; have h4x := hx.cell h4; have d0x := hx.cell d0; have cbx := hx.cell cb; (try dsimp only [List.nil_append, List.cons_append]); dsimp only [DepsV, fat, eqF]; rintro _ rfl _ rfl; go_wp2; exact OpPost.some _ rfl rfl (Ext.refl _) rfl
            with_reducible apply From.eq
            · intro w' hx; have h4x := hx.cell h4; have d0x := hx.cell d0; have cbx := hx.cell cb; (try dsimp only [List.nil_append, List.cons_append]); dsimp only [DepsV, fat, eqF]; rintro _ rfl; go_wp2; exact OpPost.some _ rfl rfl (Ext.refl _) rfl
            with_reducible refine From.fin ?_
            intro w' hx
            (try dsimp only [List.nil_append, List.cons_append]); dsimp only [EndV, eqF]; rintro _ rfl _ rfl _ rfl _ rfl _ rfl _ rfl _ rfl _ rfl _ rfl; simp only [Act.put, List.setIfInBounds_toArray, List.set_cons_zero, List.set_cons_succ]
            replace h0 := hx.cell h0
            replace h1 := hx.cell h1
            replace h2 := hx.cell h2
            replace h3 := hx.cell h3
            replace h4 := hx.cell h4
            replace d0 := hx.cell d0
            replace d1 := hx.cell d1
            replace d2 := hx.cell d2
            have HE18 := Lib.hid hx
            clear hx
            obtain ⟨u_18, rfl⟩ : ∃ q : World, q = w' := ⟨_, rfl⟩
            go_wp2_with fail
            go_roundw
            case rel => exact ⟨j + 1, by go_num, by omega, by rw [hsk.out, Ea.out, Eb.out, hS.out]; simp [Bool.beq_eq_decide_eq] <;> try omega, (HEX.out.trans HE18.out)⟩
            case measure => simp [intOf]; omega
          case neg =>
            have Ea : Hid (fr p l j = 0) := Lib.hid (by unfold fr; rw [if_neg ja])
            have Eb : Hid (fr p m j = 0) := Lib.hid (by unfold fr; rw [if_neg jb])
            have HEX := Lib.hid hext
            clear hext
            go_wp2_with fail
            go_roundw
            case rel => exact ⟨j + 1, by go_num, by omega, by rw [hsk.out, Ea.out, Eb.out, hS.out]; simp [] <;> try omega, HEX.out⟩
            case measure => simp [intOf]; omega
    · obtain rfl : j = K := by omega
      have t3 : decide ((j : Int) < k) = false := decide_eq_false (by rw [HK.out]; omega)
      have XX := HX.out.trans hext
      have RA2 := RA.out.ext hext
      have RB2 := RB.out.ext hext
      clear hext
      cases hS0 : sameK p l m j
      case false =>
        have t9 : decide (n - k + 1 ≤ (dd : Int)) = true := decide_eq_true (by have := HSEP.out.2 hS0; rw [HN.out, HK.out]; omega)
        clear hS0
        go_wp2_with fail
        refine (HDC.out _ _ _ _ _ RA2 RB2).mono ?_; rintro e wd ⟨rfl, xd⟩
        replace h0 := xd.cell h0
        replace h1 := xd.cell h1
        replace h2 := xd.cell h2
        replace h3 := xd.cell h3
        replace h4 := xd.cell h4
        replace d0 := xd.cell d0
        replace d1 := xd.cell d1
        replace d2 := xd.cell d2
        go_wp2_with fail
        go_ret
        exact ⟨rfl, XX.trans xd⟩
      case true =>
        have E0 := HSEP.out.1 hS0
        subst E0
        have HD0 : Hid (∀ w' a1 a2 c1 c2, Rd w' a1 W1 → Rd w' a2 W2 → Calls Try.prog 24 #[.slice a1 W1.length c1, .slice a2 W2.length c2] w' fun e w'' => e = .returned (.int .i64 0) ∧ Ext w' w'') := HDC
        clear hS0
        go_wp2_with fail
        refine (HD0.out _ _ _ _ _ RA2 RB2).mono ?_; rintro e wd ⟨rfl, xd⟩
        go_wp2_with fail
        go_ret
        exact ⟨rfl, XX.trans xd⟩
end Go.Proofs.Ytgnngifnoaagjaa
