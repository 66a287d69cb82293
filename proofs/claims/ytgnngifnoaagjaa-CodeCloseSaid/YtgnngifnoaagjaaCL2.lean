/- Walks of laws of layer 6. -/
import Derived.Test.YtgnngifnoaagjaaCd6
namespace Go.Proofs.Ytgnngifnoaagjaa
open Go.RowKit
theorem short1 (p : Nat) (n k : Int) (a : Option Addr) (m c : Nat) (b : Bool) (hb : shB p n k [(a, m, c)] = b) (hn : n ≤ 9223372036854775807) (hn2 : -9223372036854775808 ≤ n) (w : World) (g : Nat) (hc : w.cell? ⟨g, 0, none⟩ = some (.slice a m c)) :
    Calls Try.prog 13 #[.agg #[.int .u64 p, .int .i64 n, .int .i64 k], .slice (some ⟨g, 0, none⟩) 1 1] w fun e w' => e = .returned (.bool b) ∧ Ext w w' := by
  subst hb
  exact short_c p n k [(a, m, c)] _ 1 w (.inr ⟨g, 0, rfl, fun i hi => by
    have : i = 0 := by simpa using hi
    subst this; exact hc⟩) (by simp) hn hn2
theorem sh1_len {p : Nat} {n k : Int} {a : Option Addr} {m c : Nat} (h : shB p n k [(a, m, c)] = true) : m ≤ 300 := by
  unfold shB shL at h
  rw [Bool.and_eq_true] at h
  exact of_decide_eq_true h.1 0 (by simp)

set_option maxRecDepth 100000 in
set_option maxHeartbeats 4000000 in
theorem CodeEncode_w (p : Nat) (n k : Int) (l : List Nat) (a : Option Addr) (c : Nat) (w : World) (ha : Rd w a l) (hn : n ≤ 9223372036854775807) (hn2 : -9223372036854775808 ≤ n) :
    Calls Try.prog 3 #[.agg #[.int .u64 p, .int .i64 n, .int .i64 k], .slice a l.length c] w fun e w' => e = .returned (.bool true) ∧ Ext w w' := by
  have HA := Lib.hid ha
  clear ha
  have h0 : (w.alloc (.cells #[.int .u64 p, .int .i64 n, .int .i64 k] 24)).cell? ⟨w.heap.size, 0, none⟩ = some (.int .u64 p) := by simp
  have h1 : (w.alloc (.cells #[.int .u64 p, .int .i64 n, .int .i64 k] 24)).cell? ⟨w.heap.size, 1, none⟩ = some (.int .i64 n) := by simp
  have h2 : (w.alloc (.cells #[.int .u64 p, .int .i64 n, .int .i64 k] 24)).cell? ⟨w.heap.size, 2, none⟩ = some (.int .i64 k) := by simp
  cases hs : shB p n k [(a, l.length, c)]
  case false =>
    have SC := Lib.hid (short1 p n k a l.length c false hs hn hn2)
    clear hs
    go_enter Try.func3, Try.ntmps3
    go_wp2_with fail
    refine (awake6_c _).mono ?_; rintro e w1 ⟨rfl, x0⟩
    replace h0 := x0.cell h0
    replace h1 := x0.cell h1
    replace h2 := x0.cell h2
    have X := x0.box
    clear x0
    go_wp2_with fail
    refine (SC.out _ _ (by simp)).mono ?_; rintro e ws ⟨rfl, xs⟩
    replace h0 := xs.box.cell h0
    replace h1 := xs.box.cell h1
    replace h2 := xs.box.cell h2
    replace X := X.trans xs.box
    clear xs
    go_wp2_with fail
    go_ret
    exact ⟨rfl, X⟩
  have SC := Lib.hid (short1 p n k a l.length c true hs hn hn2)
  have hl := sh1_len hs
  have OC := Lib.hid (fun w' (h : Rd w' a l) => own_c l a c w' h (by omega))
  have EC := fun w' a' c' (h : Rd w' a' l) => Encode_c p n k l a' c' w' h (by omega) hn hn2
  have PC := fun w' => CPoints_c p n k w' hn hn2
  have RPC := fun w' => RCPoints_c p n k w' hn hn2
  have VC := fun w' => CValid_c p n k w' hn hn2
  have RVC := fun w' => RCValid_c p n k w' hn hn2
  have hD2 := cpts_le (p := p) (n := n) (k := k)
  obtain ⟨D, hD⟩ : ∃ D, D = cpts p n k := ⟨_, rfl⟩
  rw [← hD] at PC RPC hD2
  have HPC := Lib.hid PC
  have HRPC := Lib.hid RPC
  clear PC RPC hD hs
  cases hv : vld p
  case false =>
    have V := Lib.hid hv
    have hc : cval p n k = false := by
      cases hc : cval p n k
      · rfl
      · rw [(cval_spec hc).1] at hv; cases hv
    rw [hc] at VC RVC
    have HVC := Lib.hid VC
    have HRVC := Lib.hid RVC
    rw [show cEnc p n k l = ([], 7) from by unfold cEnc; rw [if_pos hv]] at EC
    have HEC := Lib.hid EC
    clear VC RVC EC hv hc
    go_enter Try.func3, Try.ntmps3
    go_wp2_with fail
    refine (awake6_c _).mono ?_; rintro e w1 ⟨rfl, x0⟩
    replace h0 := x0.cell h0
    replace h1 := x0.cell h1
    replace h2 := x0.cell h2
    have X := x0.box
    clear x0
    go_wp2_with fail
    refine (SC.out _ _ (by simp)).mono ?_; rintro e ws ⟨rfl, xs⟩
    replace h0 := xs.box.cell h0
    replace h1 := xs.box.cell h1
    replace h2 := xs.box.cell h2
    replace X := X.trans xs.box
    clear xs
    go_wp2_with fail
    refine (of_c p n k _).mono ?_; rintro e w2 ⟨rfl, x3⟩
    replace h0 := x3.cell h0
    replace h1 := x3.cell h1
    replace h2 := x3.cell h2
    replace X := X.trans x3
    clear x3
    have ha := HA.out.ext X
    go_wp2_with fail
    refine (OC.out _ ha).mono ?_; rintro e w4 ⟨v, rfl, o6, x5⟩
    obtain ⟨ho_a, ho_c, rfl, _, _, ho⟩ := o6.form
    replace h0 := x5.cell h0
    replace h1 := x5.cell h1
    replace h2 := x5.cell h2
    replace X := X.trans x5
    clear x5 o6
    clear ha
    go_wp2_with fail
    refine (HEC.out _ _ _ ho).mono ?_; rintro e we ⟨v, rfl, oe, xe⟩
    obtain ⟨re_a, re_c, rfl, _, re⟩ := oe.formN 0 rfl
    clear ho
    replace h0 := xe.cell h0
    replace h1 := xe.cell h1
    replace h2 := xe.cell h2
    replace X := X.trans xe
    clear xe oe
    go_wp2_with fail
    refine region_facts [[], [(0, 22)], [(1, 23)], [], [(3, 25)], [(2, 24), (4, 26)], [(5, 27)], [(6, 28)], [(7, 29), (6, 28)], [(8, 30), (6, 28)], [(6, 28)], [(10, 32), (6, 28)], [(9, 31), (11, 33), (6, 28)], [(12, 34), (6, 28)], [(6, 28), (13, 35)]] [some 22, some 23, some 24, some 25, some 26, some 27, some 28, some 29, some 30, some 31, some 32, some 33, some 34, some 35, some 36] (by kernel_rfl) (by kernel_rfl) ?_
    with_reducible apply From.eq
    · intro w' hx; have h0x := hx.cell h0; have h1x := hx.cell h1; have h2x := hx.cell h2; (try dsimp only [List.nil_append, List.cons_append]); dsimp only [DepsV, fat, eqF]; go_wp2; exact OpPost.some _ rfl rfl (Ext.refl _) rfl
    with_reducible apply From.eq
    · intro w' hx; have h0x := hx.cell h0; have h1x := hx.cell h1; have h2x := hx.cell h2; (try dsimp only [List.nil_append, List.cons_append]); dsimp only [DepsV, fat, eqF]; rintro _ rfl; go_wp2_with (go_at_call 15; refine (of_c p n k _).mono ?_; rintro e w2 ⟨rfl, hb2⟩); exact OpPost.some _ rfl rfl hb2 rfl
    with_reducible apply From.eq
    · intro w' hx; have h0x := hx.cell h0; have h1x := hx.cell h1; have h2x := hx.cell h2; (try dsimp only [List.nil_append, List.cons_append]); dsimp only [DepsV, fat, eqF]; rintro _ rfl; go_wp2_with (go_at_call 17; refine (HVC.out _).mono ?_; rintro e w2 ⟨rfl, hb2⟩); exact OpPost.some _ rfl rfl hb2 rfl
    with_reducible apply From.eq
    · intro w' hx; have h0x := hx.cell h0; have h1x := hx.cell h1; have h2x := hx.cell h2; (try dsimp only [List.nil_append, List.cons_append]); dsimp only [DepsV, fat, eqF]; go_wp2; exact OpPost.some _ rfl rfl (Ext.refl _) rfl
    with_reducible apply From.eq
    · intro w' hx; have h0x := hx.cell h0; have h1x := hx.cell h1; have h2x := hx.cell h2; (try dsimp only [List.nil_append, List.cons_append]); dsimp only [DepsV, fat, eqF]; rintro _ rfl; go_wp2_with (go_at_call 18; refine (HRVC.out _).mono ?_; rintro e w2 ⟨rfl, hb2⟩); exact OpPost.some _ rfl rfl hb2 rfl
    with_reducible apply From.eq
    · intro w' hx; have h0x := hx.cell h0; have h1x := hx.cell h1; have h2x := hx.cell h2; (try dsimp only [List.nil_append, List.cons_append]); dsimp only [DepsV, fat, eqF]; rintro _ rfl _ rfl; go_wp2; exact OpPost.some _ rfl rfl (Ext.refl _) rfl
    with_reducible apply From.eq
    · intro w' hx; have h0x := hx.cell h0; have h1x := hx.cell h1; have h2x := hx.cell h2; (try dsimp only [List.nil_append, List.cons_append]); dsimp only [DepsV, fat, eqF]; rintro _ rfl; go_wp2; exact OpPost.some _ rfl rfl (Ext.refl _) rfl
    with_reducible apply From.eq
    · intro w' hx; have h0x := hx.cell h0; have h1x := hx.cell h1; have h2x := hx.cell h2; (try dsimp only [List.nil_append, List.cons_append]); dsimp only [DepsV, fat, eqF]; rintro _ rfl; go_wp2; exact OpPost.some _ rfl rfl (Ext.refl _) rfl
    with_reducible apply From.eq
    · intro w' hx; have h0x := hx.cell h0; have h1x := hx.cell h1; have h2x := hx.cell h2; (try dsimp only [List.nil_append, List.cons_append]); dsimp only [DepsV, fat, eqF]; rintro _ rfl _ rfl; go_wp2_with (go_at_call 15; refine (of_c p n k _).mono ?_; rintro e w2 ⟨rfl, hb2⟩); exact OpPost.some _ rfl rfl hb2 rfl
    refine From.step (OwnF w.heap.size D) (OwnF.mono) ?_ ?_
    · intro w' hx; have h0x := hx.cell h0; have h1x := hx.cell h1; have h2x := hx.cell h2; (try dsimp only [List.nil_append, List.cons_append]); dsimp only [DepsV, fat, eqF]; rintro _ rfl _ rfl; skip;
      go_wp2_with (go_at_call 20; refine (HPC.out _).mono ?_; rintro e w2 ⟨v, rfl, ho, hn⟩); exact OpPost.some _ rfl rfl hn (ho.base (X.trans hx).size)
    with_reducible apply From.eq
    · intro w' hx; have h0x := hx.cell h0; have h1x := hx.cell h1; have h2x := hx.cell h2; (try dsimp only [List.nil_append, List.cons_append]); dsimp only [DepsV, fat, eqF]; rintro _ rfl; go_wp2; exact OpPost.some _ rfl rfl (Ext.refl _) rfl
    refine From.step (OwnF w.heap.size D) (OwnF.mono) ?_ ?_
    · intro w' hx; have h0x := hx.cell h0; have h1x := hx.cell h1; have h2x := hx.cell h2; (try dsimp only [List.nil_append, List.cons_append]); dsimp only [DepsV, fat, eqF]; rintro _ rfl _ rfl; skip;
      go_wp2_with (go_at_call 21; refine (HRPC.out _).mono ?_; rintro e w2 ⟨v, rfl, ho, hn⟩); exact OpPost.some _ rfl rfl hn (ho.base (X.trans hx).size)
    -- 12: t34
    with_reducible apply From.eq
    · intro w' hx; have h0x := hx.cell h0; have h1x := hx.cell h1; have h2x := hx.cell h2; (try dsimp only [List.nil_append, List.cons_append]); dsimp only [DepsV, fat, eqF]; rintro v9 h9; rintro v11 h11; rintro _ rfl; obtain ⟨a9, c9, rfl, _, _, r9⟩ := Own.form h9; obtain ⟨a11, c11, rfl, _, _, r11⟩ := Own.form h11; go_wp2_with (go_at_call 19; refine (same6 D _ _ _ _ _ _ rfl r9 r11 (by omega)).mono ?_; rintro e w2 ⟨rfl, hb2⟩); exact OpPost.some _ rfl rfl hb2 rfl
    with_reducible apply From.eq
    · intro w' hx; have h0x := hx.cell h0; have h1x := hx.cell h1; have h2x := hx.cell h2; (try dsimp only [List.nil_append, List.cons_append]); dsimp only [DepsV, fat, eqF]; rintro _ rfl _ rfl; go_wp2; exact OpPost.some _ rfl rfl (Ext.refl _) rfl
    with_reducible apply From.eq
    · intro w' hx; have h0x := hx.cell h0; have h1x := hx.cell h1; have h2x := hx.cell h2; (try dsimp only [List.nil_append, List.cons_append]); dsimp only [DepsV, fat, eqF]; rintro _ rfl _ rfl; go_wp2; exact OpPost.some _ rfl rfl (Ext.refl _) rfl
    with_reducible refine From.fin ?_
    intro w' hx
    (try dsimp only [List.nil_append, List.cons_append]); dsimp only [EndV, eqF]; rintro _ rfl _ rfl _ rfl _ rfl _ rfl _ rfl _ rfl _ rfl _ rfl v9 h9 _ rfl v11 h11 _ rfl _ rfl _ rfl; simp only [Act.put, List.setIfInBounds_toArray, List.set_cons_zero, List.set_cons_succ]
    clear h9 h11
    replace h0 := hx.cell h0
    replace h1 := hx.cell h1
    replace h2 := hx.cell h2
    replace re := re.ext hx
    replace X := X.trans hx
    clear hx
    go_wp2_with fail
    refine (RValid_c _ _).mono ?_; rintro e w7 ⟨rfl, x8⟩
    replace h0 := x8.cell h0
    replace h1 := x8.cell h1
    replace h2 := x8.cell h2
    replace re := re.ext x8
    replace X := X.trans x8
    clear x8
    rw [V.out]
    go_wp2_with fail
    go_ret
    exact ⟨rfl, X⟩
  have V := Lib.hid hv
  have hv2 : ¬ vld p = false := by rw [hv]; simp
  clear hv
  cases hc : cval p n k
  case false =>
    rw [hc] at VC RVC
    have HVC := Lib.hid VC
    have HRVC := Lib.hid RVC
    rw [show cEnc p n k l = ([], 1) from by unfold cEnc; rw [if_neg hv2, if_neg (fun h => by rw [hc] at h; cases h.1)]] at EC
    have HEC := Lib.hid EC
    clear VC RVC EC hv2 hc
    go_enter Try.func3, Try.ntmps3
    go_wp2_with fail
    refine (awake6_c _).mono ?_; rintro e w1 ⟨rfl, x0⟩
    replace h0 := x0.cell h0
    replace h1 := x0.cell h1
    replace h2 := x0.cell h2
    have X := x0.box
    clear x0
    go_wp2_with fail
    refine (SC.out _ _ (by simp)).mono ?_; rintro e ws ⟨rfl, xs⟩
    replace h0 := xs.box.cell h0
    replace h1 := xs.box.cell h1
    replace h2 := xs.box.cell h2
    replace X := X.trans xs.box
    clear xs
    go_wp2_with fail
    refine (of_c p n k _).mono ?_; rintro e w2 ⟨rfl, x3⟩
    replace h0 := x3.cell h0
    replace h1 := x3.cell h1
    replace h2 := x3.cell h2
    replace X := X.trans x3
    clear x3
    have ha := HA.out.ext X
    go_wp2_with fail
    refine (OC.out _ ha).mono ?_; rintro e w4 ⟨v, rfl, o6, x5⟩
    obtain ⟨ho_a, ho_c, rfl, _, _, ho⟩ := o6.form
    replace h0 := x5.cell h0
    replace h1 := x5.cell h1
    replace h2 := x5.cell h2
    replace X := X.trans x5
    clear x5 o6
    clear ha
    go_wp2_with fail
    refine (HEC.out _ _ _ ho).mono ?_; rintro e we ⟨v, rfl, oe, xe⟩
    obtain ⟨re_a, re_c, rfl, _, re⟩ := oe.formN 0 rfl
    clear ho
    replace h0 := xe.cell h0
    replace h1 := xe.cell h1
    replace h2 := xe.cell h2
    replace X := X.trans xe
    clear xe oe
    go_wp2_with fail
    refine region_facts [[], [(0, 22)], [(1, 23)], [], [(3, 25)], [(2, 24), (4, 26)], [(5, 27)], [(6, 28)], [(7, 29), (6, 28)], [(8, 30), (6, 28)], [(6, 28)], [(10, 32), (6, 28)], [(9, 31), (11, 33), (6, 28)], [(12, 34), (6, 28)], [(6, 28), (13, 35)]] [some 22, some 23, some 24, some 25, some 26, some 27, some 28, some 29, some 30, some 31, some 32, some 33, some 34, some 35, some 36] (by kernel_rfl) (by kernel_rfl) ?_
    with_reducible apply From.eq
    · intro w' hx; have h0x := hx.cell h0; have h1x := hx.cell h1; have h2x := hx.cell h2; (try dsimp only [List.nil_append, List.cons_append]); dsimp only [DepsV, fat, eqF]; go_wp2; exact OpPost.some _ rfl rfl (Ext.refl _) rfl
    with_reducible apply From.eq
    · intro w' hx; have h0x := hx.cell h0; have h1x := hx.cell h1; have h2x := hx.cell h2; (try dsimp only [List.nil_append, List.cons_append]); dsimp only [DepsV, fat, eqF]; rintro _ rfl; go_wp2_with (go_at_call 15; refine (of_c p n k _).mono ?_; rintro e w2 ⟨rfl, hb2⟩); exact OpPost.some _ rfl rfl hb2 rfl
    with_reducible apply From.eq
    · intro w' hx; have h0x := hx.cell h0; have h1x := hx.cell h1; have h2x := hx.cell h2; (try dsimp only [List.nil_append, List.cons_append]); dsimp only [DepsV, fat, eqF]; rintro _ rfl; go_wp2_with (go_at_call 17; refine (HVC.out _).mono ?_; rintro e w2 ⟨rfl, hb2⟩); exact OpPost.some _ rfl rfl hb2 rfl
    with_reducible apply From.eq
    · intro w' hx; have h0x := hx.cell h0; have h1x := hx.cell h1; have h2x := hx.cell h2; (try dsimp only [List.nil_append, List.cons_append]); dsimp only [DepsV, fat, eqF]; go_wp2; exact OpPost.some _ rfl rfl (Ext.refl _) rfl
    with_reducible apply From.eq
    · intro w' hx; have h0x := hx.cell h0; have h1x := hx.cell h1; have h2x := hx.cell h2; (try dsimp only [List.nil_append, List.cons_append]); dsimp only [DepsV, fat, eqF]; rintro _ rfl; go_wp2_with (go_at_call 18; refine (HRVC.out _).mono ?_; rintro e w2 ⟨rfl, hb2⟩); exact OpPost.some _ rfl rfl hb2 rfl
    with_reducible apply From.eq
    · intro w' hx; have h0x := hx.cell h0; have h1x := hx.cell h1; have h2x := hx.cell h2; (try dsimp only [List.nil_append, List.cons_append]); dsimp only [DepsV, fat, eqF]; rintro _ rfl _ rfl; go_wp2; exact OpPost.some _ rfl rfl (Ext.refl _) rfl
    with_reducible apply From.eq
    · intro w' hx; have h0x := hx.cell h0; have h1x := hx.cell h1; have h2x := hx.cell h2; (try dsimp only [List.nil_append, List.cons_append]); dsimp only [DepsV, fat, eqF]; rintro _ rfl; go_wp2; exact OpPost.some _ rfl rfl (Ext.refl _) rfl
    with_reducible apply From.eq
    · intro w' hx; have h0x := hx.cell h0; have h1x := hx.cell h1; have h2x := hx.cell h2; (try dsimp only [List.nil_append, List.cons_append]); dsimp only [DepsV, fat, eqF]; rintro _ rfl; go_wp2; exact OpPost.some _ rfl rfl (Ext.refl _) rfl
    with_reducible apply From.eq
    · intro w' hx; have h0x := hx.cell h0; have h1x := hx.cell h1; have h2x := hx.cell h2; (try dsimp only [List.nil_append, List.cons_append]); dsimp only [DepsV, fat, eqF]; rintro _ rfl _ rfl; go_wp2_with (go_at_call 15; refine (of_c p n k _).mono ?_; rintro e w2 ⟨rfl, hb2⟩); exact OpPost.some _ rfl rfl hb2 rfl
    refine From.step (OwnF w.heap.size D) (OwnF.mono) ?_ ?_
    · intro w' hx; have h0x := hx.cell h0; have h1x := hx.cell h1; have h2x := hx.cell h2; (try dsimp only [List.nil_append, List.cons_append]); dsimp only [DepsV, fat, eqF]; rintro _ rfl _ rfl; skip;
      go_wp2_with (go_at_call 20; refine (HPC.out _).mono ?_; rintro e w2 ⟨v, rfl, ho, hn⟩); exact OpPost.some _ rfl rfl hn (ho.base (X.trans hx).size)
    with_reducible apply From.eq
    · intro w' hx; have h0x := hx.cell h0; have h1x := hx.cell h1; have h2x := hx.cell h2; (try dsimp only [List.nil_append, List.cons_append]); dsimp only [DepsV, fat, eqF]; rintro _ rfl; go_wp2; exact OpPost.some _ rfl rfl (Ext.refl _) rfl
    refine From.step (OwnF w.heap.size D) (OwnF.mono) ?_ ?_
    · intro w' hx; have h0x := hx.cell h0; have h1x := hx.cell h1; have h2x := hx.cell h2; (try dsimp only [List.nil_append, List.cons_append]); dsimp only [DepsV, fat, eqF]; rintro _ rfl _ rfl; skip;
      go_wp2_with (go_at_call 21; refine (HRPC.out _).mono ?_; rintro e w2 ⟨v, rfl, ho, hn⟩); exact OpPost.some _ rfl rfl hn (ho.base (X.trans hx).size)
    -- 12: t34
    with_reducible apply From.eq
    · intro w' hx; have h0x := hx.cell h0; have h1x := hx.cell h1; have h2x := hx.cell h2; (try dsimp only [List.nil_append, List.cons_append]); dsimp only [DepsV, fat, eqF]; rintro v9 h9; rintro v11 h11; rintro _ rfl; obtain ⟨a9, c9, rfl, _, _, r9⟩ := Own.form h9; obtain ⟨a11, c11, rfl, _, _, r11⟩ := Own.form h11; go_wp2_with (go_at_call 19; refine (same6 D _ _ _ _ _ _ rfl r9 r11 (by omega)).mono ?_; rintro e w2 ⟨rfl, hb2⟩); exact OpPost.some _ rfl rfl hb2 rfl
    with_reducible apply From.eq
    · intro w' hx; have h0x := hx.cell h0; have h1x := hx.cell h1; have h2x := hx.cell h2; (try dsimp only [List.nil_append, List.cons_append]); dsimp only [DepsV, fat, eqF]; rintro _ rfl _ rfl; go_wp2; exact OpPost.some _ rfl rfl (Ext.refl _) rfl
    with_reducible apply From.eq
    · intro w' hx; have h0x := hx.cell h0; have h1x := hx.cell h1; have h2x := hx.cell h2; (try dsimp only [List.nil_append, List.cons_append]); dsimp only [DepsV, fat, eqF]; rintro _ rfl _ rfl; go_wp2; exact OpPost.some _ rfl rfl (Ext.refl _) rfl
    with_reducible refine From.fin ?_
    intro w' hx
    (try dsimp only [List.nil_append, List.cons_append]); dsimp only [EndV, eqF]; rintro _ rfl _ rfl _ rfl _ rfl _ rfl _ rfl _ rfl _ rfl _ rfl v9 h9 _ rfl v11 h11 _ rfl _ rfl _ rfl; simp only [Act.put, List.setIfInBounds_toArray, List.set_cons_zero, List.set_cons_succ]
    clear h9 h11
    replace h0 := hx.cell h0
    replace h1 := hx.cell h1
    replace h2 := hx.cell h2
    replace re := re.ext hx
    replace X := X.trans hx
    clear hx
    go_wp2_with fail
    refine (RValid_c _ _).mono ?_; rintro e w7 ⟨rfl, x8⟩
    replace h0 := x8.cell h0
    replace h1 := x8.cell h1
    replace h2 := x8.cell h2
    replace re := re.ext x8
    replace X := X.trans x8
    clear x8
    rw [V.out]
    go_wp2_with fail
    refine (HRVC.out _).mono ?_; rintro e w9 ⟨rfl, x10⟩
    replace h0 := x10.cell h0
    replace h1 := x10.cell h1
    replace h2 := x10.cell h2
    replace re := re.ext x10
    replace X := X.trans x10
    clear x10
    go_wp2_with fail
    go_ret
    exact ⟨rfl, X⟩
  rw [hc] at VC RVC
  have HVC := Lib.hid VC
  have HRVC := Lib.hid RVC
  by_cases hk : (l.length : Int) ≤ k
  case neg =>
    have t1 : decide (k < (l.length : Int)) = true := decide_eq_true (by omega)
    rw [show cEnc p n k l = ([], 1) from by unfold cEnc; rw [if_neg hv2, if_neg (fun h => hk h.2)]] at EC
    have HEC := Lib.hid EC
    clear VC RVC EC hv2 hc hk
    go_enter Try.func3, Try.ntmps3
    go_wp2_with fail
    refine (awake6_c _).mono ?_; rintro e w1 ⟨rfl, x0⟩
    replace h0 := x0.cell h0
    replace h1 := x0.cell h1
    replace h2 := x0.cell h2
    have X := x0.box
    clear x0
    go_wp2_with fail
    refine (SC.out _ _ (by simp)).mono ?_; rintro e ws ⟨rfl, xs⟩
    replace h0 := xs.box.cell h0
    replace h1 := xs.box.cell h1
    replace h2 := xs.box.cell h2
    replace X := X.trans xs.box
    clear xs
    go_wp2_with fail
    refine (of_c p n k _).mono ?_; rintro e w2 ⟨rfl, x3⟩
    replace h0 := x3.cell h0
    replace h1 := x3.cell h1
    replace h2 := x3.cell h2
    replace X := X.trans x3
    clear x3
    have ha := HA.out.ext X
    go_wp2_with fail
    refine (OC.out _ ha).mono ?_; rintro e w4 ⟨v, rfl, o6, x5⟩
    obtain ⟨ho_a, ho_c, rfl, _, _, ho⟩ := o6.form
    replace h0 := x5.cell h0
    replace h1 := x5.cell h1
    replace h2 := x5.cell h2
    replace X := X.trans x5
    clear x5 o6
    clear ha
    go_wp2_with fail
    refine (HEC.out _ _ _ ho).mono ?_; rintro e we ⟨v, rfl, oe, xe⟩
    obtain ⟨re_a, re_c, rfl, _, re⟩ := oe.formN 0 rfl
    clear ho
    replace h0 := xe.cell h0
    replace h1 := xe.cell h1
    replace h2 := xe.cell h2
    replace X := X.trans xe
    clear xe oe
    go_wp2_with fail
    refine region_facts [[], [(0, 22)], [(1, 23)], [], [(3, 25)], [(2, 24), (4, 26)], [(5, 27)], [(6, 28)], [(7, 29), (6, 28)], [(8, 30), (6, 28)], [(6, 28)], [(10, 32), (6, 28)], [(9, 31), (11, 33), (6, 28)], [(12, 34), (6, 28)], [(6, 28), (13, 35)]] [some 22, some 23, some 24, some 25, some 26, some 27, some 28, some 29, some 30, some 31, some 32, some 33, some 34, some 35, some 36] (by kernel_rfl) (by kernel_rfl) ?_
    with_reducible apply From.eq
    · intro w' hx; have h0x := hx.cell h0; have h1x := hx.cell h1; have h2x := hx.cell h2; (try dsimp only [List.nil_append, List.cons_append]); dsimp only [DepsV, fat, eqF]; go_wp2; exact OpPost.some _ rfl rfl (Ext.refl _) rfl
    with_reducible apply From.eq
    · intro w' hx; have h0x := hx.cell h0; have h1x := hx.cell h1; have h2x := hx.cell h2; (try dsimp only [List.nil_append, List.cons_append]); dsimp only [DepsV, fat, eqF]; rintro _ rfl; go_wp2_with (go_at_call 15; refine (of_c p n k _).mono ?_; rintro e w2 ⟨rfl, hb2⟩); exact OpPost.some _ rfl rfl hb2 rfl
    with_reducible apply From.eq
    · intro w' hx; have h0x := hx.cell h0; have h1x := hx.cell h1; have h2x := hx.cell h2; (try dsimp only [List.nil_append, List.cons_append]); dsimp only [DepsV, fat, eqF]; rintro _ rfl; go_wp2_with (go_at_call 17; refine (HVC.out _).mono ?_; rintro e w2 ⟨rfl, hb2⟩); exact OpPost.some _ rfl rfl hb2 rfl
    with_reducible apply From.eq
    · intro w' hx; have h0x := hx.cell h0; have h1x := hx.cell h1; have h2x := hx.cell h2; (try dsimp only [List.nil_append, List.cons_append]); dsimp only [DepsV, fat, eqF]; go_wp2; exact OpPost.some _ rfl rfl (Ext.refl _) rfl
    with_reducible apply From.eq
    · intro w' hx; have h0x := hx.cell h0; have h1x := hx.cell h1; have h2x := hx.cell h2; (try dsimp only [List.nil_append, List.cons_append]); dsimp only [DepsV, fat, eqF]; rintro _ rfl; go_wp2_with (go_at_call 18; refine (HRVC.out _).mono ?_; rintro e w2 ⟨rfl, hb2⟩); exact OpPost.some _ rfl rfl hb2 rfl
    with_reducible apply From.eq
    · intro w' hx; have h0x := hx.cell h0; have h1x := hx.cell h1; have h2x := hx.cell h2; (try dsimp only [List.nil_append, List.cons_append]); dsimp only [DepsV, fat, eqF]; rintro _ rfl _ rfl; go_wp2; exact OpPost.some _ rfl rfl (Ext.refl _) rfl
    with_reducible apply From.eq
    · intro w' hx; have h0x := hx.cell h0; have h1x := hx.cell h1; have h2x := hx.cell h2; (try dsimp only [List.nil_append, List.cons_append]); dsimp only [DepsV, fat, eqF]; rintro _ rfl; go_wp2; exact OpPost.some _ rfl rfl (Ext.refl _) rfl
    with_reducible apply From.eq
    · intro w' hx; have h0x := hx.cell h0; have h1x := hx.cell h1; have h2x := hx.cell h2; (try dsimp only [List.nil_append, List.cons_append]); dsimp only [DepsV, fat, eqF]; rintro _ rfl; go_wp2; exact OpPost.some _ rfl rfl (Ext.refl _) rfl
    with_reducible apply From.eq
    · intro w' hx; have h0x := hx.cell h0; have h1x := hx.cell h1; have h2x := hx.cell h2; (try dsimp only [List.nil_append, List.cons_append]); dsimp only [DepsV, fat, eqF]; rintro _ rfl _ rfl; go_wp2_with (go_at_call 15; refine (of_c p n k _).mono ?_; rintro e w2 ⟨rfl, hb2⟩); exact OpPost.some _ rfl rfl hb2 rfl
    refine From.step (OwnF w.heap.size D) (OwnF.mono) ?_ ?_
    · intro w' hx; have h0x := hx.cell h0; have h1x := hx.cell h1; have h2x := hx.cell h2; (try dsimp only [List.nil_append, List.cons_append]); dsimp only [DepsV, fat, eqF]; rintro _ rfl _ rfl; skip;
      go_wp2_with (go_at_call 20; refine (HPC.out _).mono ?_; rintro e w2 ⟨v, rfl, ho, hn⟩); exact OpPost.some _ rfl rfl hn (ho.base (X.trans hx).size)
    with_reducible apply From.eq
    · intro w' hx; have h0x := hx.cell h0; have h1x := hx.cell h1; have h2x := hx.cell h2; (try dsimp only [List.nil_append, List.cons_append]); dsimp only [DepsV, fat, eqF]; rintro _ rfl; go_wp2; exact OpPost.some _ rfl rfl (Ext.refl _) rfl
    refine From.step (OwnF w.heap.size D) (OwnF.mono) ?_ ?_
    · intro w' hx; have h0x := hx.cell h0; have h1x := hx.cell h1; have h2x := hx.cell h2; (try dsimp only [List.nil_append, List.cons_append]); dsimp only [DepsV, fat, eqF]; rintro _ rfl _ rfl; skip;
      go_wp2_with (go_at_call 21; refine (HRPC.out _).mono ?_; rintro e w2 ⟨v, rfl, ho, hn⟩); exact OpPost.some _ rfl rfl hn (ho.base (X.trans hx).size)
    -- 12: t34
    with_reducible apply From.eq
    · intro w' hx; have h0x := hx.cell h0; have h1x := hx.cell h1; have h2x := hx.cell h2; (try dsimp only [List.nil_append, List.cons_append]); dsimp only [DepsV, fat, eqF]; rintro v9 h9; rintro v11 h11; rintro _ rfl; obtain ⟨a9, c9, rfl, _, _, r9⟩ := Own.form h9; obtain ⟨a11, c11, rfl, _, _, r11⟩ := Own.form h11; go_wp2_with (go_at_call 19; refine (same6 D _ _ _ _ _ _ rfl r9 r11 (by omega)).mono ?_; rintro e w2 ⟨rfl, hb2⟩); exact OpPost.some _ rfl rfl hb2 rfl
    with_reducible apply From.eq
    · intro w' hx; have h0x := hx.cell h0; have h1x := hx.cell h1; have h2x := hx.cell h2; (try dsimp only [List.nil_append, List.cons_append]); dsimp only [DepsV, fat, eqF]; rintro _ rfl _ rfl; go_wp2; exact OpPost.some _ rfl rfl (Ext.refl _) rfl
    with_reducible apply From.eq
    · intro w' hx; have h0x := hx.cell h0; have h1x := hx.cell h1; have h2x := hx.cell h2; (try dsimp only [List.nil_append, List.cons_append]); dsimp only [DepsV, fat, eqF]; rintro _ rfl _ rfl; go_wp2; exact OpPost.some _ rfl rfl (Ext.refl _) rfl
    with_reducible refine From.fin ?_
    intro w' hx
    (try dsimp only [List.nil_append, List.cons_append]); dsimp only [EndV, eqF]; rintro _ rfl _ rfl _ rfl _ rfl _ rfl _ rfl _ rfl _ rfl _ rfl v9 h9 _ rfl v11 h11 _ rfl _ rfl _ rfl; simp only [Act.put, List.setIfInBounds_toArray, List.set_cons_zero, List.set_cons_succ]
    clear h9 h11
    replace h0 := hx.cell h0
    replace h1 := hx.cell h1
    replace h2 := hx.cell h2
    replace re := re.ext hx
    replace X := X.trans hx
    clear hx
    go_wp2_with fail
    refine (RValid_c _ _).mono ?_; rintro e w7 ⟨rfl, x8⟩
    replace h0 := x8.cell h0
    replace h1 := x8.cell h1
    replace h2 := x8.cell h2
    replace re := re.ext x8
    replace X := X.trans x8
    clear x8
    rw [V.out]
    go_wp2_with fail
    refine (HRVC.out _).mono ?_; rintro e w9 ⟨rfl, x10⟩
    replace h0 := x10.cell h0
    replace h1 := x10.cell h1
    replace h2 := x10.cell h2
    replace re := re.ext x10
    replace X := X.trans x10
    clear x10
    go_wp2_with fail
    go_ret
    exact ⟨rfl, X⟩
  have t1 : decide (k < (l.length : Int)) = false := decide_eq_false (by omega)
  have hw : (cword p n.toNat l).length ≤ 256 := by
    obtain ⟨_, e, K, N, he, hN, rfl, _⟩ := cval_spec hc
    unfold cword reva
    rw [tab_len, Int.toNat_natCast, hN]; exact Nat.pow_le_pow_right (n := 2) (by omega) he
  have RE := fun w' (h : Rd w' a l) => REncode_c p n k l a c w' h (by omega) hn hn2
  rw [rEnc_val hc] at RE
  have HRE := Lib.hid RE
  rw [show cEnc p n k l = (cword p n.toNat l, 0) from by unfold cEnc; rw [if_neg hv2, if_pos ⟨hc, hk⟩]] at EC
  have HEC := Lib.hid EC
  clear VC RVC EC RE hv2 hc hk
  go_enter Try.func3, Try.ntmps3
  go_wp2_with fail
  refine (awake6_c _).mono ?_; rintro e w1 ⟨rfl, x0⟩
  replace h0 := x0.cell h0
  replace h1 := x0.cell h1
  replace h2 := x0.cell h2
  have X := x0.box
  clear x0
  go_wp2_with fail
  refine (SC.out _ _ (by simp)).mono ?_; rintro e ws ⟨rfl, xs⟩
  replace h0 := xs.box.cell h0
  replace h1 := xs.box.cell h1
  replace h2 := xs.box.cell h2
  replace X := X.trans xs.box
  clear xs
  go_wp2_with fail
  refine (of_c p n k _).mono ?_; rintro e w2 ⟨rfl, x3⟩
  replace h0 := x3.cell h0
  replace h1 := x3.cell h1
  replace h2 := x3.cell h2
  replace X := X.trans x3
  clear x3
  have ha := HA.out.ext X
  go_wp2_with fail
  refine (OC.out _ ha).mono ?_; rintro e w4 ⟨v, rfl, o6, x5⟩
  obtain ⟨ho_a, ho_c, rfl, _, _, ho⟩ := o6.form
  replace h0 := x5.cell h0
  replace h1 := x5.cell h1
  replace h2 := x5.cell h2
  replace X := X.trans x5
  clear x5 o6
  clear ha
  go_wp2_with fail
  refine (HEC.out _ _ _ ho).mono ?_; rintro e we ⟨v, rfl, oe, xe⟩
  obtain ⟨re_a, re_c, rfl, _, _, re⟩ := oe.form
  clear ho
  replace h0 := xe.cell h0
  replace h1 := xe.cell h1
  replace h2 := xe.cell h2
  replace X := X.trans xe
  clear xe oe
  go_wp2_with fail
  refine region_facts [[], [(0, 22)], [(1, 23)], [], [(3, 25)], [(2, 24), (4, 26)], [(5, 27)], [(6, 28)], [(7, 29), (6, 28)], [(8, 30), (6, 28)], [(6, 28)], [(10, 32), (6, 28)], [(9, 31), (11, 33), (6, 28)], [(12, 34), (6, 28)], [(6, 28), (13, 35)]] [some 22, some 23, some 24, some 25, some 26, some 27, some 28, some 29, some 30, some 31, some 32, some 33, some 34, some 35, some 36] (by kernel_rfl) (by kernel_rfl) ?_
  with_reducible apply From.eq
  · intro w' hx; have h0x := hx.cell h0; have h1x := hx.cell h1; have h2x := hx.cell h2; (try dsimp only [List.nil_append, List.cons_append]); dsimp only [DepsV, fat, eqF]; go_wp2; exact OpPost.some _ rfl rfl (Ext.refl _) rfl
  with_reducible apply From.eq
  · intro w' hx; have h0x := hx.cell h0; have h1x := hx.cell h1; have h2x := hx.cell h2; (try dsimp only [List.nil_append, List.cons_append]); dsimp only [DepsV, fat, eqF]; rintro _ rfl; go_wp2_with (go_at_call 15; refine (of_c p n k _).mono ?_; rintro e w2 ⟨rfl, hb2⟩); exact OpPost.some _ rfl rfl hb2 rfl
  with_reducible apply From.eq
  · intro w' hx; have h0x := hx.cell h0; have h1x := hx.cell h1; have h2x := hx.cell h2; (try dsimp only [List.nil_append, List.cons_append]); dsimp only [DepsV, fat, eqF]; rintro _ rfl; go_wp2_with (go_at_call 17; refine (HVC.out _).mono ?_; rintro e w2 ⟨rfl, hb2⟩); exact OpPost.some _ rfl rfl hb2 rfl
  with_reducible apply From.eq
  · intro w' hx; have h0x := hx.cell h0; have h1x := hx.cell h1; have h2x := hx.cell h2; (try dsimp only [List.nil_append, List.cons_append]); dsimp only [DepsV, fat, eqF]; go_wp2; exact OpPost.some _ rfl rfl (Ext.refl _) rfl
  with_reducible apply From.eq
  · intro w' hx; have h0x := hx.cell h0; have h1x := hx.cell h1; have h2x := hx.cell h2; (try dsimp only [List.nil_append, List.cons_append]); dsimp only [DepsV, fat, eqF]; rintro _ rfl; go_wp2_with (go_at_call 18; refine (HRVC.out _).mono ?_; rintro e w2 ⟨rfl, hb2⟩); exact OpPost.some _ rfl rfl hb2 rfl
  with_reducible apply From.eq
  · intro w' hx; have h0x := hx.cell h0; have h1x := hx.cell h1; have h2x := hx.cell h2; (try dsimp only [List.nil_append, List.cons_append]); dsimp only [DepsV, fat, eqF]; rintro _ rfl _ rfl; go_wp2; exact OpPost.some _ rfl rfl (Ext.refl _) rfl
  with_reducible apply From.eq
  · intro w' hx; have h0x := hx.cell h0; have h1x := hx.cell h1; have h2x := hx.cell h2; (try dsimp only [List.nil_append, List.cons_append]); dsimp only [DepsV, fat, eqF]; rintro _ rfl; go_wp2; exact OpPost.some _ rfl rfl (Ext.refl _) rfl
  with_reducible apply From.eq
  · intro w' hx; have h0x := hx.cell h0; have h1x := hx.cell h1; have h2x := hx.cell h2; (try dsimp only [List.nil_append, List.cons_append]); dsimp only [DepsV, fat, eqF]; rintro _ rfl; go_wp2; exact OpPost.some _ rfl rfl (Ext.refl _) rfl
  with_reducible apply From.eq
  · intro w' hx; have h0x := hx.cell h0; have h1x := hx.cell h1; have h2x := hx.cell h2; (try dsimp only [List.nil_append, List.cons_append]); dsimp only [DepsV, fat, eqF]; rintro _ rfl _ rfl; go_wp2_with (go_at_call 15; refine (of_c p n k _).mono ?_; rintro e w2 ⟨rfl, hb2⟩); exact OpPost.some _ rfl rfl hb2 rfl
  refine From.step (OwnF w.heap.size D) (OwnF.mono) ?_ ?_
  · intro w' hx; have h0x := hx.cell h0; have h1x := hx.cell h1; have h2x := hx.cell h2; (try dsimp only [List.nil_append, List.cons_append]); dsimp only [DepsV, fat, eqF]; rintro _ rfl _ rfl; skip;
    go_wp2_with (go_at_call 20; refine (HPC.out _).mono ?_; rintro e w2 ⟨v, rfl, ho, hn⟩); exact OpPost.some _ rfl rfl hn (ho.base (X.trans hx).size)
  with_reducible apply From.eq
  · intro w' hx; have h0x := hx.cell h0; have h1x := hx.cell h1; have h2x := hx.cell h2; (try dsimp only [List.nil_append, List.cons_append]); dsimp only [DepsV, fat, eqF]; rintro _ rfl; go_wp2; exact OpPost.some _ rfl rfl (Ext.refl _) rfl
  refine From.step (OwnF w.heap.size D) (OwnF.mono) ?_ ?_
  · intro w' hx; have h0x := hx.cell h0; have h1x := hx.cell h1; have h2x := hx.cell h2; (try dsimp only [List.nil_append, List.cons_append]); dsimp only [DepsV, fat, eqF]; rintro _ rfl _ rfl; skip;
    go_wp2_with (go_at_call 21; refine (HRPC.out _).mono ?_; rintro e w2 ⟨v, rfl, ho, hn⟩); exact OpPost.some _ rfl rfl hn (ho.base (X.trans hx).size)
  -- 12: t34
  with_reducible apply From.eq
  · intro w' hx; have h0x := hx.cell h0; have h1x := hx.cell h1; have h2x := hx.cell h2; (try dsimp only [List.nil_append, List.cons_append]); dsimp only [DepsV, fat, eqF]; rintro v9 h9; rintro v11 h11; rintro _ rfl; obtain ⟨a9, c9, rfl, _, _, r9⟩ := Own.form h9; obtain ⟨a11, c11, rfl, _, _, r11⟩ := Own.form h11; go_wp2_with (go_at_call 19; refine (same6 D _ _ _ _ _ _ rfl r9 r11 (by omega)).mono ?_; rintro e w2 ⟨rfl, hb2⟩); exact OpPost.some _ rfl rfl hb2 rfl
  with_reducible apply From.eq
  · intro w' hx; have h0x := hx.cell h0; have h1x := hx.cell h1; have h2x := hx.cell h2; (try dsimp only [List.nil_append, List.cons_append]); dsimp only [DepsV, fat, eqF]; rintro _ rfl _ rfl; go_wp2; exact OpPost.some _ rfl rfl (Ext.refl _) rfl
  with_reducible apply From.eq
  · intro w' hx; have h0x := hx.cell h0; have h1x := hx.cell h1; have h2x := hx.cell h2; (try dsimp only [List.nil_append, List.cons_append]); dsimp only [DepsV, fat, eqF]; rintro _ rfl _ rfl; go_wp2; exact OpPost.some _ rfl rfl (Ext.refl _) rfl
  with_reducible refine From.fin ?_
  intro w' hx
  (try dsimp only [List.nil_append, List.cons_append]); dsimp only [EndV, eqF]; rintro _ rfl _ rfl _ rfl _ rfl _ rfl _ rfl _ rfl _ rfl _ rfl v9 h9 _ rfl v11 h11 _ rfl _ rfl _ rfl; simp only [Act.put, List.setIfInBounds_toArray, List.set_cons_zero, List.set_cons_succ]
  clear h9 h11
  replace h0 := hx.cell h0
  replace h1 := hx.cell h1
  replace h2 := hx.cell h2
  replace re := re.ext hx
  replace X := X.trans hx
  clear hx
  go_wp2_with fail
  refine (RValid_c _ _).mono ?_; rintro e w7 ⟨rfl, x8⟩
  replace h0 := x8.cell h0
  replace h1 := x8.cell h1
  replace h2 := x8.cell h2
  replace re := re.ext x8
  replace X := X.trans x8
  clear x8
  rw [V.out]
  go_wp2_with fail
  refine (HRVC.out _).mono ?_; rintro e w9 ⟨rfl, x10⟩
  replace h0 := x10.cell h0
  replace h1 := x10.cell h1
  replace h2 := x10.cell h2
  replace re := re.ext x10
  replace X := X.trans x10
  clear x10
  have ha := HA.out.ext X
  go_wp2_with fail
  refine (HRE.out _ ha).mono ?_; rintro e w11 ⟨v, rfl, o13, x12⟩
  obtain ⟨rr_a, rr_c, rfl, _, _, rr⟩ := o13.form
  replace h0 := x12.cell h0
  replace h1 := x12.cell h1
  replace h2 := x12.cell h2
  replace re := re.ext x12
  replace ha := ha.ext x12
  replace X := X.trans x12
  clear x12 o13
  go_wp2_with fail
  refine (same6 (cword p n.toNat l) _ _ _ _ _ _ rfl re rr (by omega)).mono ?_; rintro e w14 ⟨rfl, x15⟩
  replace h0 := x15.cell h0
  replace h1 := x15.cell h1
  replace h2 := x15.cell h2
  replace re := re.ext x15
  replace ha := ha.ext x15
  replace rr := rr.ext x15
  replace X := X.trans x15
  clear x15
  go_wp2_with fail
  go_ret
  exact ⟨rfl, X⟩
end Go.Proofs.Ytgnngifnoaagjaa
