/- Walk of CodeNearest. -/
import Derived.Test.YtgnngifnoaagjaaCL2
import Derived.Test.YtgnngifnoaagjaaCd11
namespace Go.Proofs.Ytgnngifnoaagjaa
open Go.RowKit
def N3F (base : Nat) (l : List Nat) (b : Bool) (e : Int) : Fact := fun w v => ∃ u, v = .tuple #[u, .bool b, .int .i64 e] ∧ Own w base u l
theorem N3F.mono {base : Nat} {l : List Nat} {b : Bool} {e : Int} : Mono (N3F base l b e) := fun _ _ _ hx ⟨u, hv, ho⟩ => ⟨u, hv, ho.grow hx⟩
theorem N3Post.conv {w : World} {o : Option (List Nat)} {n : Int} {l : List Nat} {b : Bool} (hb : o.isSome = b) (hl : o.getD [] = l) {e : Ending} {w' : World} (h : N3Post w o n e w') : ∃ v, e = .returned (.tuple #[v, .bool b, .int .i64 n]) ∧ Own w' w.heap.size v l ∧ Ext w w' := by
  subst hb hl; exact h

set_option maxRecDepth 100000 in
set_option maxHeartbeats 8000000 in
theorem CodeNearest_w (p : Nat) (n k e : Int) (l m : List Nat) (a b : Option Addr) (c f : Nat) (w : World) (ha : Rd w a l) (_hb : Rd w b m) (hn : n ≤ 9223372036854775807) (hn2 : -9223372036854775808 ≤ n) (he : e ≤ 9223372036854775807) (he2 : -9223372036854775808 ≤ e) (hl : l.length ≤ 9223372036854775807) :
    Calls Try.prog 5 #[.agg #[.int .u64 p, .int .i64 n, .int .i64 k, .slice a l.length c, .slice b m.length f, .int .i64 e]] w fun e w' => e = .returned (.bool true) ∧ Ext w w' := by
  have HA := Lib.hid ha
  clear ha _hb
  have h0 : (w.alloc (.cells #[.int .u64 p, .int .i64 n, .int .i64 k, .slice a l.length c, .slice b m.length f, .int .i64 e] 45)).cell? ⟨w.heap.size, 0, none⟩ = some (.int .u64 p) := by simp
  have h1 : (w.alloc (.cells #[.int .u64 p, .int .i64 n, .int .i64 k, .slice a l.length c, .slice b m.length f, .int .i64 e] 45)).cell? ⟨w.heap.size, 1, none⟩ = some (.int .i64 n) := by simp
  have h2 : (w.alloc (.cells #[.int .u64 p, .int .i64 n, .int .i64 k, .slice a l.length c, .slice b m.length f, .int .i64 e] 45)).cell? ⟨w.heap.size, 2, none⟩ = some (.int .i64 k) := by simp
  have h3 : (w.alloc (.cells #[.int .u64 p, .int .i64 n, .int .i64 k, .slice a l.length c, .slice b m.length f, .int .i64 e] 45)).cell? ⟨w.heap.size, 3, none⟩ = some (.slice a l.length c) := by simp
  have h4 : (w.alloc (.cells #[.int .u64 p, .int .i64 n, .int .i64 k, .slice a l.length c, .slice b m.length f, .int .i64 e] 45)).cell? ⟨w.heap.size, 4, none⟩ = some (.slice b m.length f) := by simp
  have h5 : (w.alloc (.cells #[.int .u64 p, .int .i64 n, .int .i64 k, .slice a l.length c, .slice b m.length f, .int .i64 e] 45)).cell? ⟨w.heap.size, 5, none⟩ = some (.int .i64 e) := by simp
  have RVC := fun w' => RCValid_c p n k w' hn hn2
  cases hs : shB p n k [(a, l.length, c)]
  case false =>
    have SC := Lib.hid (short1 p n k a l.length c false hs hn hn2)
    clear hs RVC
    go_enter Try.func5, Try.ntmps5
    go_wp2_with fail
    refine (awake6_c _).mono ?_; rintro e w1 ⟨rfl, x0⟩
    replace h0 := x0.cell h0
    replace h1 := x0.cell h1
    replace h2 := x0.cell h2
    replace h3 := x0.cell h3
    replace h4 := x0.cell h4
    replace h5 := x0.cell h5
    have X := x0.box
    clear x0
    go_wp2_with fail
    refine (SC.out _ _ (by simp)).mono ?_; rintro e w2 ⟨rfl, x⟩
    replace h0 := x.box.cell h0
    replace h1 := x.box.cell h1
    replace h2 := x.box.cell h2
    replace h3 := x.box.cell h3
    replace h4 := x.box.cell h4
    replace h5 := x.box.cell h5
    replace X := X.trans x.box
    clear x
    go_wp2_with fail
    go_ret
    exact ⟨rfl, X⟩
  have SC := Lib.hid (short1 p n k a l.length c true hs hn hn2)
  have hlen := sh1_len hs
  have OCA := Lib.hid (fun w' (a : Option Addr) (c : Nat) (h : Rd w' a l) => own_c l a c w' h (by omega))
  have NC := fun w' (a : Option Addr) (c : Nat) (h : Rd w' a l) => Nearest_c p n k l e a c w' h (by omega) hn hn2
  have RV1 := fun w' => RValid_c p w'
  clear hs
  cases hv : vld p
  case false =>
    have hc : cval p n k = false := by
      cases hc : cval p n k
      · rfl
      · rw [((cval_iff p n k).1 hc).1] at hv; cases hv
    have en : cNear p n k l e = (none, 7) := by unfold cNear; rw [if_pos hv]
    rw [en] at NC
    rw [hc] at RVC
    rw [hv] at RV1
    have HNC : Hid (∀ w' (a : Option Addr) (c : Nat), Rd w' a l → Calls Try.prog 27 #[.agg #[.int .u64 p, .int .i64 n, .int .i64 k], .slice a l.length c, .int .i64 e] w' fun e w'' => ∃ v, e = .returned (.tuple #[v, .bool false, .int .i64 7]) ∧ Own w'' w'.heap.size v [] ∧ Ext w' w'') := Lib.hid (fun w' a c h => NC w' a c h)
    have HRVC := Lib.hid RVC
    have HRV := Lib.hid RV1
    clear NC RVC RV1 en hc hv
    go_enter Try.func5, Try.ntmps5
    go_wp2_with fail
    refine (awake6_c _).mono ?_; rintro e w1 ⟨rfl, x0⟩
    replace h0 := x0.cell h0
    replace h1 := x0.cell h1
    replace h2 := x0.cell h2
    replace h3 := x0.cell h3
    replace h4 := x0.cell h4
    replace h5 := x0.cell h5
    have X := x0.box
    clear x0
    go_wp2_with fail
    refine (SC.out _ _ (by simp)).mono ?_; rintro e w2 ⟨rfl, x⟩
    replace h0 := x.box.cell h0
    replace h1 := x.box.cell h1
    replace h2 := x.box.cell h2
    replace h3 := x.box.cell h3
    replace h4 := x.box.cell h4
    replace h5 := x.box.cell h5
    replace X := X.trans x.box
    clear x
    go_wp2_with fail
    refine (HRVC.out _).mono ?_; rintro e w3 ⟨rfl, x⟩
    replace h0 := x.cell h0
    replace h1 := x.cell h1
    replace h2 := x.cell h2
    replace h3 := x.cell h3
    replace h4 := x.cell h4
    replace h5 := x.cell h5
    replace X := X.trans x
    clear x
    go_wp2_with fail
    refine region_facts [[], [(0, 35)], [(1, 36)], [], [(3, 38)], [(4, 39)], [], [(6, 41)], [(2, 37), (5, 40), (7, 42)], [(8, 43)], [(9, 34)], [(9, 34)], [(9, 34)], [(10, 44)], [(11, 45)], [(12, 46)]] [some 35, some 36, some 37, some 38, some 39, some 40, some 41, some 42, some 43, some 34, some 44, some 45, some 46, some 3, some 4, some 5] (by kernel_rfl) (by kernel_rfl) ?_
    with_reducible apply From.eq
    · intro w' hx; have h0x := hx.cell h0; have h1x := hx.cell h1; have h2x := hx.cell h2; have h3x := hx.cell h3; have h5x := hx.cell h5; (try dsimp only [List.nil_append, List.cons_append]); dsimp only [DepsV, fat, eqF]; go_wp2; exact OpPost.some _ rfl rfl (Ext.refl _) rfl
    with_reducible apply From.eq
    · intro w' hx; have h0x := hx.cell h0; have h1x := hx.cell h1; have h2x := hx.cell h2; have h3x := hx.cell h3; have h5x := hx.cell h5; (try dsimp only [List.nil_append, List.cons_append]); dsimp only [DepsV, fat, eqF]; rintro _ rfl; go_wp2; exact OpPost.some _ rfl rfl (Ext.refl _) rfl
    with_reducible apply From.eq
    · intro w' hx; have h0x := hx.cell h0; have h1x := hx.cell h1; have h2x := hx.cell h2; have h3x := hx.cell h3; have h5x := hx.cell h5; (try dsimp only [List.nil_append, List.cons_append]); dsimp only [DepsV, fat, eqF]; rintro _ rfl; go_wp2_with (go_at_call 15; refine (of_c p n k _).mono ?_; rintro e w2 ⟨rfl, hb2⟩); exact OpPost.some _ rfl rfl hb2 rfl
    with_reducible apply From.eq
    · intro w' hx; have h0x := hx.cell h0; have h1x := hx.cell h1; have h2x := hx.cell h2; have h3x := hx.cell h3; have h5x := hx.cell h5; (try dsimp only [List.nil_append, List.cons_append]); dsimp only [DepsV, fat, eqF]; go_wp2; exact OpPost.some _ rfl rfl (Ext.refl _) rfl
    with_reducible apply From.eq
    · intro w' hx; have h0x := hx.cell h0; have h1x := hx.cell h1; have h2x := hx.cell h2; have h3x := hx.cell h3; have h5x := hx.cell h5; (try dsimp only [List.nil_append, List.cons_append]); dsimp only [DepsV, fat, eqF]; rintro _ rfl; go_wp2; exact OpPost.some _ rfl rfl (Ext.refl _) rfl
    refine From.step (OwnF w.heap.size l) (OwnF.mono) ?_ ?_
    · intro w' hx; have h0x := hx.cell h0; have h1x := hx.cell h1; have h2x := hx.cell h2; have h3x := hx.cell h3; have h5x := hx.cell h5; (try dsimp only [List.nil_append, List.cons_append]); dsimp only [DepsV, fat, eqF]; rintro _ rfl; skip;
      go_wp2_with (go_at_call 16; refine (OCA.out _ _ _ (HA.out.ext (X.trans hx))).mono ?_; rintro e w2 ⟨v, rfl, ho, hn'⟩); exact OpPost.some _ rfl rfl hn' (ho.base (X.trans hx).size)
    with_reducible apply From.eq
    · intro w' hx; have h0x := hx.cell h0; have h1x := hx.cell h1; have h2x := hx.cell h2; have h3x := hx.cell h3; have h5x := hx.cell h5; (try dsimp only [List.nil_append, List.cons_append]); dsimp only [DepsV, fat, eqF]; go_wp2; exact OpPost.some _ rfl rfl (Ext.refl _) rfl
    with_reducible apply From.eq
    · intro w' hx; have h0x := hx.cell h0; have h1x := hx.cell h1; have h2x := hx.cell h2; have h3x := hx.cell h3; have h5x := hx.cell h5; (try dsimp only [List.nil_append, List.cons_append]); dsimp only [DepsV, fat, eqF]; rintro _ rfl; go_wp2; exact OpPost.some _ rfl rfl (Ext.refl _) rfl
    refine From.step (N3F w.heap.size [] false 7) (N3F.mono) ?_ ?_
    · intro w' hx; have h0x := hx.cell h0; have h1x := hx.cell h1; have h2x := hx.cell h2; have h3x := hx.cell h3; have h5x := hx.cell h5; (try dsimp only [List.nil_append, List.cons_append]); dsimp only [DepsV, fat, eqF]; rintro _ rfl; rintro v5 k5; rintro _ rfl; obtain ⟨a5, c5, rfl, _, _, r5⟩ := Own.form k5;
      go_wp2_with (go_at_call 27; refine (HNC.out _ _ _ r5).mono ?_; rintro e w2 ⟨v, rfl, ho, hn'⟩); exact OpPost.some _ rfl rfl hn' ⟨v, rfl, ho.base (X.trans hx).size⟩
    refine From.step (N3F w.heap.size [] false 7) (N3F.mono) ?_ ?_
    · intro w' hx; have h0x := hx.cell h0; have h1x := hx.cell h1; have h2x := hx.cell h2; have h3x := hx.cell h3; have h5x := hx.cell h5; (try dsimp only [List.nil_append, List.cons_append]); dsimp only [DepsV, fat, eqF]; rintro v8 k8; go_wp2; exact OpPost.some _ rfl rfl (Ext.refl _) k8
    -- 10: t44
    refine From.step (OwnF w.heap.size []) OwnF.mono ?_ ?_
    · intro w' hx; have h0x := hx.cell h0; have h1x := hx.cell h1; have h2x := hx.cell h2; have h3x := hx.cell h3; have h5x := hx.cell h5; (try dsimp only [List.nil_append, List.cons_append]); dsimp only [DepsV, fat, eqF]; rintro v9_ h9_; obtain ⟨u, rfl, hu⟩ := h9_; go_wp2; exact OpPost.some _ rfl rfl (Ext.refl _) hu
    -- 11: t45
    with_reducible apply From.eq
    · intro w' hx; have h0x := hx.cell h0; have h1x := hx.cell h1; have h2x := hx.cell h2; have h3x := hx.cell h3; have h5x := hx.cell h5; (try dsimp only [List.nil_append, List.cons_append]); dsimp only [DepsV, fat, eqF]; rintro v9_ h9_; obtain ⟨u, rfl, hu⟩ := h9_; go_wp2; exact OpPost.some _ rfl rfl (Ext.refl _) rfl
    -- 12: t46
    with_reducible apply From.eq
    · intro w' hx; have h0x := hx.cell h0; have h1x := hx.cell h1; have h2x := hx.cell h2; have h3x := hx.cell h3; have h5x := hx.cell h5; (try dsimp only [List.nil_append, List.cons_append]); dsimp only [DepsV, fat, eqF]; rintro v9_ h9_; obtain ⟨u, rfl, hu⟩ := h9_; go_wp2; exact OpPost.some _ rfl rfl (Ext.refl _) rfl
    -- 13: t3
    refine From.step (OwnF w.heap.size []) OwnF.mono ?_ ?_
    · intro w' hx; have h0x := hx.cell h0; have h1x := hx.cell h1; have h2x := hx.cell h2; have h3x := hx.cell h3; have h5x := hx.cell h5; (try dsimp only [List.nil_append, List.cons_append]); dsimp only [DepsV, fat, eqF]; rintro v10 k10; go_wp2; exact OpPost.some _ rfl rfl (Ext.refl _) k10
    with_reducible apply From.eq
    · intro w' hx; have h0x := hx.cell h0; have h1x := hx.cell h1; have h2x := hx.cell h2; have h3x := hx.cell h3; have h5x := hx.cell h5; (try dsimp only [List.nil_append, List.cons_append]); dsimp only [DepsV, fat, eqF]; rintro _ rfl; go_wp2; exact OpPost.some _ rfl rfl (Ext.refl _) rfl
    with_reducible apply From.eq
    · intro w' hx; have h0x := hx.cell h0; have h1x := hx.cell h1; have h2x := hx.cell h2; have h3x := hx.cell h3; have h5x := hx.cell h5; (try dsimp only [List.nil_append, List.cons_append]); dsimp only [DepsV, fat, eqF]; rintro _ rfl; go_wp2; exact OpPost.some _ rfl rfl (Ext.refl _) rfl
    with_reducible refine From.fin ?_
    intro w' hx
    (try dsimp only [List.nil_append, List.cons_append]); dsimp only [EndV, eqF]; rintro _ rfl _ rfl _ rfl _ rfl _ rfl v5 k5 _ rfl _ rfl v8 k8 v9_ h9_ v10 k10 _ rfl _ rfl v13 k13 _ rfl _ rfl; simp only [Act.put, List.setIfInBounds_toArray, List.set_cons_zero, List.set_cons_succ]
    obtain ⟨u5, rfl, _⟩ := k8
    obtain ⟨u6, rfl, _⟩ := h9_
    replace h0 := hx.cell h0
    replace h1 := hx.cell h1
    replace h2 := hx.cell h2
    replace h3 := hx.cell h3
    replace h4 := hx.cell h4
    replace h5 := hx.cell h5
    replace X := X.trans hx
    clear hx k5 k10
    obtain ⟨u_a, u_c, hvv, _, _⟩ := Own.formN6 k13 0 rfl
    subst hvv
    clear k13
    go_wp2_with fail
    refine (HRV.out _).mono ?_; rintro e w5 ⟨rfl, x⟩
    replace h0 := x.cell h0
    replace h1 := x.cell h1
    replace h2 := x.cell h2
    replace h3 := x.cell h3
    replace h4 := x.cell h4
    replace h5 := x.cell h5
    replace X := X.trans x
    clear x
    go_wp2_with fail
    go_ret
    exact ⟨rfl, X⟩
  rw [hv] at RV1
  have HRV := Lib.hid RV1
  clear RV1
  cases hc : cval p n k
  case false =>
    have hbad : ¬ (cval p n k = true ∧ (l.length : Int) = n ∧ 0 ≤ e ∧ e ≤ (n - k) / 2) := fun h => by rw [hc] at h; cases h.1
    have en : cNear p n k l e = (none, 1) := by unfold cNear; rw [if_neg (by rw [hv]; simp), if_neg hbad]
    rw [en] at NC
    have HNC : Hid (∀ w' (a : Option Addr) (c : Nat), Rd w' a l → Calls Try.prog 27 #[.agg #[.int .u64 p, .int .i64 n, .int .i64 k], .slice a l.length c, .int .i64 e] w' fun e w'' => ∃ v, e = .returned (.tuple #[v, .bool false, .int .i64 1]) ∧ Own w'' w'.heap.size v [] ∧ Ext w' w'') := Lib.hid (fun w' a c h => NC w' a c h)
    have HRVC := Lib.hid RVC
    clear NC RVC en hbad
    rw [hc] at HRVC
    clear hv hc
    go_enter Try.func5, Try.ntmps5
    go_wp2_with fail
    refine (awake6_c _).mono ?_; rintro e w1 ⟨rfl, x0⟩
    replace h0 := x0.cell h0
    replace h1 := x0.cell h1
    replace h2 := x0.cell h2
    replace h3 := x0.cell h3
    replace h4 := x0.cell h4
    replace h5 := x0.cell h5
    have X := x0.box
    clear x0
    go_wp2_with fail
    refine (SC.out _ _ (by simp)).mono ?_; rintro e w2 ⟨rfl, x⟩
    replace h0 := x.box.cell h0
    replace h1 := x.box.cell h1
    replace h2 := x.box.cell h2
    replace h3 := x.box.cell h3
    replace h4 := x.box.cell h4
    replace h5 := x.box.cell h5
    replace X := X.trans x.box
    clear x
    go_wp2_with fail
    refine (HRVC.out _).mono ?_; rintro e w3 ⟨rfl, x⟩
    replace h0 := x.cell h0
    replace h1 := x.cell h1
    replace h2 := x.cell h2
    replace h3 := x.cell h3
    replace h4 := x.cell h4
    replace h5 := x.cell h5
    replace X := X.trans x
    clear x
    go_wp2_with fail
    refine region_facts [[], [(0, 35)], [(1, 36)], [], [(3, 38)], [(4, 39)], [], [(6, 41)], [(2, 37), (5, 40), (7, 42)], [(8, 43)], [(9, 34)], [(9, 34)], [(9, 34)], [(10, 44)], [(11, 45)], [(12, 46)]] [some 35, some 36, some 37, some 38, some 39, some 40, some 41, some 42, some 43, some 34, some 44, some 45, some 46, some 3, some 4, some 5] (by kernel_rfl) (by kernel_rfl) ?_
    with_reducible apply From.eq
    · intro w' hx; have h0x := hx.cell h0; have h1x := hx.cell h1; have h2x := hx.cell h2; have h3x := hx.cell h3; have h5x := hx.cell h5; (try dsimp only [List.nil_append, List.cons_append]); dsimp only [DepsV, fat, eqF]; go_wp2; exact OpPost.some _ rfl rfl (Ext.refl _) rfl
    with_reducible apply From.eq
    · intro w' hx; have h0x := hx.cell h0; have h1x := hx.cell h1; have h2x := hx.cell h2; have h3x := hx.cell h3; have h5x := hx.cell h5; (try dsimp only [List.nil_append, List.cons_append]); dsimp only [DepsV, fat, eqF]; rintro _ rfl; go_wp2; exact OpPost.some _ rfl rfl (Ext.refl _) rfl
    with_reducible apply From.eq
    · intro w' hx; have h0x := hx.cell h0; have h1x := hx.cell h1; have h2x := hx.cell h2; have h3x := hx.cell h3; have h5x := hx.cell h5; (try dsimp only [List.nil_append, List.cons_append]); dsimp only [DepsV, fat, eqF]; rintro _ rfl; go_wp2_with (go_at_call 15; refine (of_c p n k _).mono ?_; rintro e w2 ⟨rfl, hb2⟩); exact OpPost.some _ rfl rfl hb2 rfl
    with_reducible apply From.eq
    · intro w' hx; have h0x := hx.cell h0; have h1x := hx.cell h1; have h2x := hx.cell h2; have h3x := hx.cell h3; have h5x := hx.cell h5; (try dsimp only [List.nil_append, List.cons_append]); dsimp only [DepsV, fat, eqF]; go_wp2; exact OpPost.some _ rfl rfl (Ext.refl _) rfl
    with_reducible apply From.eq
    · intro w' hx; have h0x := hx.cell h0; have h1x := hx.cell h1; have h2x := hx.cell h2; have h3x := hx.cell h3; have h5x := hx.cell h5; (try dsimp only [List.nil_append, List.cons_append]); dsimp only [DepsV, fat, eqF]; rintro _ rfl; go_wp2; exact OpPost.some _ rfl rfl (Ext.refl _) rfl
    refine From.step (OwnF w.heap.size l) (OwnF.mono) ?_ ?_
    · intro w' hx; have h0x := hx.cell h0; have h1x := hx.cell h1; have h2x := hx.cell h2; have h3x := hx.cell h3; have h5x := hx.cell h5; (try dsimp only [List.nil_append, List.cons_append]); dsimp only [DepsV, fat, eqF]; rintro _ rfl; skip;
      go_wp2_with (go_at_call 16; refine (OCA.out _ _ _ (HA.out.ext (X.trans hx))).mono ?_; rintro e w2 ⟨v, rfl, ho, hn'⟩); exact OpPost.some _ rfl rfl hn' (ho.base (X.trans hx).size)
    with_reducible apply From.eq
    · intro w' hx; have h0x := hx.cell h0; have h1x := hx.cell h1; have h2x := hx.cell h2; have h3x := hx.cell h3; have h5x := hx.cell h5; (try dsimp only [List.nil_append, List.cons_append]); dsimp only [DepsV, fat, eqF]; go_wp2; exact OpPost.some _ rfl rfl (Ext.refl _) rfl
    with_reducible apply From.eq
    · intro w' hx; have h0x := hx.cell h0; have h1x := hx.cell h1; have h2x := hx.cell h2; have h3x := hx.cell h3; have h5x := hx.cell h5; (try dsimp only [List.nil_append, List.cons_append]); dsimp only [DepsV, fat, eqF]; rintro _ rfl; go_wp2; exact OpPost.some _ rfl rfl (Ext.refl _) rfl
    refine From.step (N3F w.heap.size [] false 1) (N3F.mono) ?_ ?_
    · intro w' hx; have h0x := hx.cell h0; have h1x := hx.cell h1; have h2x := hx.cell h2; have h3x := hx.cell h3; have h5x := hx.cell h5; (try dsimp only [List.nil_append, List.cons_append]); dsimp only [DepsV, fat, eqF]; rintro _ rfl; rintro v5 k5; rintro _ rfl; obtain ⟨a5, c5, rfl, _, _, r5⟩ := Own.form k5;
      go_wp2_with (go_at_call 27; refine (HNC.out _ _ _ r5).mono ?_; rintro e w2 ⟨v, rfl, ho, hn'⟩); exact OpPost.some _ rfl rfl hn' ⟨v, rfl, ho.base (X.trans hx).size⟩
    refine From.step (N3F w.heap.size [] false 1) (N3F.mono) ?_ ?_
    · intro w' hx; have h0x := hx.cell h0; have h1x := hx.cell h1; have h2x := hx.cell h2; have h3x := hx.cell h3; have h5x := hx.cell h5; (try dsimp only [List.nil_append, List.cons_append]); dsimp only [DepsV, fat, eqF]; rintro v8 k8; go_wp2; exact OpPost.some _ rfl rfl (Ext.refl _) k8
    -- 10: t44
    refine From.step (OwnF w.heap.size []) OwnF.mono ?_ ?_
    · intro w' hx; have h0x := hx.cell h0; have h1x := hx.cell h1; have h2x := hx.cell h2; have h3x := hx.cell h3; have h5x := hx.cell h5; (try dsimp only [List.nil_append, List.cons_append]); dsimp only [DepsV, fat, eqF]; rintro v9_ h9_; obtain ⟨u, rfl, hu⟩ := h9_; go_wp2; exact OpPost.some _ rfl rfl (Ext.refl _) hu
    -- 11: t45
    with_reducible apply From.eq
    · intro w' hx; have h0x := hx.cell h0; have h1x := hx.cell h1; have h2x := hx.cell h2; have h3x := hx.cell h3; have h5x := hx.cell h5; (try dsimp only [List.nil_append, List.cons_append]); dsimp only [DepsV, fat, eqF]; rintro v9_ h9_; obtain ⟨u, rfl, hu⟩ := h9_; go_wp2; exact OpPost.some _ rfl rfl (Ext.refl _) rfl
    -- 12: t46
    with_reducible apply From.eq
    · intro w' hx; have h0x := hx.cell h0; have h1x := hx.cell h1; have h2x := hx.cell h2; have h3x := hx.cell h3; have h5x := hx.cell h5; (try dsimp only [List.nil_append, List.cons_append]); dsimp only [DepsV, fat, eqF]; rintro v9_ h9_; obtain ⟨u, rfl, hu⟩ := h9_; go_wp2; exact OpPost.some _ rfl rfl (Ext.refl _) rfl
    -- 13: t3
    refine From.step (OwnF w.heap.size []) OwnF.mono ?_ ?_
    · intro w' hx; have h0x := hx.cell h0; have h1x := hx.cell h1; have h2x := hx.cell h2; have h3x := hx.cell h3; have h5x := hx.cell h5; (try dsimp only [List.nil_append, List.cons_append]); dsimp only [DepsV, fat, eqF]; rintro v10 k10; go_wp2; exact OpPost.some _ rfl rfl (Ext.refl _) k10
    with_reducible apply From.eq
    · intro w' hx; have h0x := hx.cell h0; have h1x := hx.cell h1; have h2x := hx.cell h2; have h3x := hx.cell h3; have h5x := hx.cell h5; (try dsimp only [List.nil_append, List.cons_append]); dsimp only [DepsV, fat, eqF]; rintro _ rfl; go_wp2; exact OpPost.some _ rfl rfl (Ext.refl _) rfl
    with_reducible apply From.eq
    · intro w' hx; have h0x := hx.cell h0; have h1x := hx.cell h1; have h2x := hx.cell h2; have h3x := hx.cell h3; have h5x := hx.cell h5; (try dsimp only [List.nil_append, List.cons_append]); dsimp only [DepsV, fat, eqF]; rintro _ rfl; go_wp2; exact OpPost.some _ rfl rfl (Ext.refl _) rfl
    with_reducible refine From.fin ?_
    intro w' hx
    (try dsimp only [List.nil_append, List.cons_append]); dsimp only [EndV, eqF]; rintro _ rfl _ rfl _ rfl _ rfl _ rfl v5 k5 _ rfl _ rfl v8 k8 v9_ h9_ v10 k10 _ rfl _ rfl v13 k13 _ rfl _ rfl; simp only [Act.put, List.setIfInBounds_toArray, List.set_cons_zero, List.set_cons_succ]
    obtain ⟨u5, rfl, _⟩ := k8
    obtain ⟨u6, rfl, _⟩ := h9_
    replace h0 := hx.cell h0
    replace h1 := hx.cell h1
    replace h2 := hx.cell h2
    replace h3 := hx.cell h3
    replace h4 := hx.cell h4
    replace h5 := hx.cell h5
    replace X := X.trans hx
    clear hx k5 k10
    obtain ⟨u_a, u_c, hvv, _, _⟩ := Own.formN6 k13 0 rfl
    subst hvv
    clear k13
    go_wp2_with fail
    refine (HRV.out _).mono ?_; rintro e w5 ⟨rfl, x⟩
    replace h0 := x.cell h0
    replace h1 := x.cell h1
    replace h2 := x.cell h2
    replace h3 := x.cell h3
    replace h4 := x.cell h4
    replace h5 := x.cell h5
    replace X := X.trans x
    clear x
    go_wp2_with fail
    refine (HRVC.out _).mono ?_; rintro e w6 ⟨rfl, x⟩
    replace h0 := x.cell h0
    replace h1 := x.cell h1
    replace h2 := x.cell h2
    replace h3 := x.cell h3
    replace h4 := x.cell h4
    replace h5 := x.cell h5
    replace X := X.trans x
    clear x
    go_wp2_with fail
    go_ret
    exact ⟨rfl, X⟩
  obtain ⟨hb1, hb2, hb3, hb4, hb5, hb6, hb7⟩ := (cval_iff p n k).1 hc
  obtain ⟨K, hK⟩ : ∃ K : Nat, K = k.toNat := ⟨_, rfl⟩
  have hkK : k = (K : Int) := by omega
  have MC : Hid (∀ w', Calls Try.prog 26 #[.agg #[.int .u64 p, .int .i64 n, .int .i64 k]] w' fun e w'' => e = .returned (.int .u64 ((manyM p K : Nat) : Int)) ∧ Ext w' w'') := Lib.hid (fun w' => by
    have q := Many_c p n K w' (by omega)
    rw [← hkK] at q
    exact q)
  have hmm := manyM_le p K
  obtain ⟨M, hM⟩ : ∃ M, M = manyM p K := ⟨_, rfl⟩
  rw [← hM] at MC hmm
  have HKK := Lib.hid hkK
  clear hM hb1 hb4 hK hkK
  by_cases hM2 : M ≤ 20000
  case neg =>
    rw [hc] at RVC
    have HRVC := Lib.hid RVC
    clear NC RVC hv hc
    go_enter Try.func5, Try.ntmps5
    go_wp2_with fail
    refine (awake6_c _).mono ?_; rintro e w1 ⟨rfl, x0⟩
    replace h0 := x0.cell h0
    replace h1 := x0.cell h1
    replace h2 := x0.cell h2
    replace h3 := x0.cell h3
    replace h4 := x0.cell h4
    replace h5 := x0.cell h5
    have X := x0.box
    clear x0
    go_wp2_with fail
    refine (SC.out _ _ (by simp)).mono ?_; rintro e w2 ⟨rfl, x⟩
    replace h0 := x.box.cell h0
    replace h1 := x.box.cell h1
    replace h2 := x.box.cell h2
    replace h3 := x.box.cell h3
    replace h4 := x.box.cell h4
    replace h5 := x.box.cell h5
    replace X := X.trans x.box
    clear x
    go_wp2_with fail
    refine (HRVC.out _).mono ?_; rintro e w3 ⟨rfl, x⟩
    replace h0 := x.cell h0
    replace h1 := x.cell h1
    replace h2 := x.cell h2
    replace h3 := x.cell h3
    replace h4 := x.cell h4
    replace h5 := x.cell h5
    replace X := X.trans x
    clear x
    go_wp2_with fail
    refine (MC.out _).mono ?_; rintro e w4 ⟨rfl, x⟩
    replace h0 := x.cell h0
    replace h1 := x.cell h1
    replace h2 := x.cell h2
    replace h3 := x.cell h3
    replace h4 := x.cell h4
    replace h5 := x.cell h5
    replace X := X.trans x
    clear x
    go_wp2_with fail
    go_ret
    exact ⟨rfl, X⟩
  by_cases hn16 : n ≤ 16
  case neg =>
    rw [hc] at RVC
    have HRVC := Lib.hid RVC
    clear NC RVC hv hc
    go_enter Try.func5, Try.ntmps5
    go_wp2_with fail
    refine (awake6_c _).mono ?_; rintro e w1 ⟨rfl, x0⟩
    replace h0 := x0.cell h0
    replace h1 := x0.cell h1
    replace h2 := x0.cell h2
    replace h3 := x0.cell h3
    replace h4 := x0.cell h4
    replace h5 := x0.cell h5
    have X := x0.box
    clear x0
    go_wp2_with fail
    refine (SC.out _ _ (by simp)).mono ?_; rintro e w2 ⟨rfl, x⟩
    replace h0 := x.box.cell h0
    replace h1 := x.box.cell h1
    replace h2 := x.box.cell h2
    replace h3 := x.box.cell h3
    replace h4 := x.box.cell h4
    replace h5 := x.box.cell h5
    replace X := X.trans x.box
    clear x
    go_wp2_with fail
    refine (HRVC.out _).mono ?_; rintro e w3 ⟨rfl, x⟩
    replace h0 := x.cell h0
    replace h1 := x.cell h1
    replace h2 := x.cell h2
    replace h3 := x.cell h3
    replace h4 := x.cell h4
    replace h5 := x.cell h5
    replace X := X.trans x
    clear x
    go_wp2_with fail
    refine (MC.out _).mono ?_; rintro e w4 ⟨rfl, x⟩
    replace h0 := x.cell h0
    replace h1 := x.cell h1
    replace h2 := x.cell h2
    replace h3 := x.cell h3
    replace h4 := x.cell h4
    replace h5 := x.cell h5
    replace X := X.trans x
    clear x
    go_wp2_with fail
    go_ret
    exact ⟨rfl, X⟩
  have hdiv : (n - k).tdiv 2 = (n - k) / 2 := Int.tdiv_eq_ediv_of_nonneg (by omega)
  by_cases hln : (l.length : Int) = n
  case neg =>
    have tn : ((l.length : Int) != n) = true := bne_iff_ne.2 hln
    have hbad : ¬ (cval p n k = true ∧ (l.length : Int) = n ∧ 0 ≤ e ∧ e ≤ (n - k) / 2) := fun h => hln h.2.1
    have en : cNear p n k l e = (none, 1) := by unfold cNear; rw [if_neg (by rw [hv]; simp), if_neg hbad]
    rw [en] at NC
    have HNC : Hid (∀ w' (a : Option Addr) (c : Nat), Rd w' a l → Calls Try.prog 27 #[.agg #[.int .u64 p, .int .i64 n, .int .i64 k], .slice a l.length c, .int .i64 e] w' fun e w'' => ∃ v, e = .returned (.tuple #[v, .bool false, .int .i64 1]) ∧ Own w'' w'.heap.size v [] ∧ Ext w' w'') := Lib.hid (fun w' a c h => NC w' a c h)
    have HRVC := Lib.hid RVC
    clear NC RVC en hbad
    rw [hc] at HRVC
    clear hv hc
    go_enter Try.func5, Try.ntmps5
    go_wp2_with fail
    refine (awake6_c _).mono ?_; rintro e w1 ⟨rfl, x0⟩
    replace h0 := x0.cell h0
    replace h1 := x0.cell h1
    replace h2 := x0.cell h2
    replace h3 := x0.cell h3
    replace h4 := x0.cell h4
    replace h5 := x0.cell h5
    have X := x0.box
    clear x0
    go_wp2_with fail
    refine (SC.out _ _ (by simp)).mono ?_; rintro e w2 ⟨rfl, x⟩
    replace h0 := x.box.cell h0
    replace h1 := x.box.cell h1
    replace h2 := x.box.cell h2
    replace h3 := x.box.cell h3
    replace h4 := x.box.cell h4
    replace h5 := x.box.cell h5
    replace X := X.trans x.box
    clear x
    go_wp2_with fail
    refine (HRVC.out _).mono ?_; rintro e w3 ⟨rfl, x⟩
    replace h0 := x.cell h0
    replace h1 := x.cell h1
    replace h2 := x.cell h2
    replace h3 := x.cell h3
    replace h4 := x.cell h4
    replace h5 := x.cell h5
    replace X := X.trans x
    clear x
    go_wp2_with fail
    refine (MC.out _).mono ?_; rintro e w4 ⟨rfl, x⟩
    replace h0 := x.cell h0
    replace h1 := x.cell h1
    replace h2 := x.cell h2
    replace h3 := x.cell h3
    replace h4 := x.cell h4
    replace h5 := x.cell h5
    replace X := X.trans x
    clear x
    go_wp2_with fail
    refine region_facts [[], [(0, 35)], [(1, 36)], [], [(3, 38)], [(4, 39)], [], [(6, 41)], [(2, 37), (5, 40), (7, 42)], [(8, 43)], [(9, 34)], [(9, 34)], [(9, 34)], [(10, 44)], [(11, 45)], [(12, 46)]] [some 35, some 36, some 37, some 38, some 39, some 40, some 41, some 42, some 43, some 34, some 44, some 45, some 46, some 3, some 4, some 5] (by kernel_rfl) (by kernel_rfl) ?_
    with_reducible apply From.eq
    · intro w' hx; have h0x := hx.cell h0; have h1x := hx.cell h1; have h2x := hx.cell h2; have h3x := hx.cell h3; have h5x := hx.cell h5; (try dsimp only [List.nil_append, List.cons_append]); dsimp only [DepsV, fat, eqF]; go_wp2; exact OpPost.some _ rfl rfl (Ext.refl _) rfl
    with_reducible apply From.eq
    · intro w' hx; have h0x := hx.cell h0; have h1x := hx.cell h1; have h2x := hx.cell h2; have h3x := hx.cell h3; have h5x := hx.cell h5; (try dsimp only [List.nil_append, List.cons_append]); dsimp only [DepsV, fat, eqF]; rintro _ rfl; go_wp2; exact OpPost.some _ rfl rfl (Ext.refl _) rfl
    with_reducible apply From.eq
    · intro w' hx; have h0x := hx.cell h0; have h1x := hx.cell h1; have h2x := hx.cell h2; have h3x := hx.cell h3; have h5x := hx.cell h5; (try dsimp only [List.nil_append, List.cons_append]); dsimp only [DepsV, fat, eqF]; rintro _ rfl; go_wp2_with (go_at_call 15; refine (of_c p n k _).mono ?_; rintro e w2 ⟨rfl, hb2⟩); exact OpPost.some _ rfl rfl hb2 rfl
    with_reducible apply From.eq
    · intro w' hx; have h0x := hx.cell h0; have h1x := hx.cell h1; have h2x := hx.cell h2; have h3x := hx.cell h3; have h5x := hx.cell h5; (try dsimp only [List.nil_append, List.cons_append]); dsimp only [DepsV, fat, eqF]; go_wp2; exact OpPost.some _ rfl rfl (Ext.refl _) rfl
    with_reducible apply From.eq
    · intro w' hx; have h0x := hx.cell h0; have h1x := hx.cell h1; have h2x := hx.cell h2; have h3x := hx.cell h3; have h5x := hx.cell h5; (try dsimp only [List.nil_append, List.cons_append]); dsimp only [DepsV, fat, eqF]; rintro _ rfl; go_wp2; exact OpPost.some _ rfl rfl (Ext.refl _) rfl
    refine From.step (OwnF w.heap.size l) (OwnF.mono) ?_ ?_
    · intro w' hx; have h0x := hx.cell h0; have h1x := hx.cell h1; have h2x := hx.cell h2; have h3x := hx.cell h3; have h5x := hx.cell h5; (try dsimp only [List.nil_append, List.cons_append]); dsimp only [DepsV, fat, eqF]; rintro _ rfl; skip;
      go_wp2_with (go_at_call 16; refine (OCA.out _ _ _ (HA.out.ext (X.trans hx))).mono ?_; rintro e w2 ⟨v, rfl, ho, hn'⟩); exact OpPost.some _ rfl rfl hn' (ho.base (X.trans hx).size)
    with_reducible apply From.eq
    · intro w' hx; have h0x := hx.cell h0; have h1x := hx.cell h1; have h2x := hx.cell h2; have h3x := hx.cell h3; have h5x := hx.cell h5; (try dsimp only [List.nil_append, List.cons_append]); dsimp only [DepsV, fat, eqF]; go_wp2; exact OpPost.some _ rfl rfl (Ext.refl _) rfl
    with_reducible apply From.eq
    · intro w' hx; have h0x := hx.cell h0; have h1x := hx.cell h1; have h2x := hx.cell h2; have h3x := hx.cell h3; have h5x := hx.cell h5; (try dsimp only [List.nil_append, List.cons_append]); dsimp only [DepsV, fat, eqF]; rintro _ rfl; go_wp2; exact OpPost.some _ rfl rfl (Ext.refl _) rfl
    refine From.step (N3F w.heap.size [] false 1) (N3F.mono) ?_ ?_
    · intro w' hx; have h0x := hx.cell h0; have h1x := hx.cell h1; have h2x := hx.cell h2; have h3x := hx.cell h3; have h5x := hx.cell h5; (try dsimp only [List.nil_append, List.cons_append]); dsimp only [DepsV, fat, eqF]; rintro _ rfl; rintro v5 k5; rintro _ rfl; obtain ⟨a5, c5, rfl, _, _, r5⟩ := Own.form k5;
      go_wp2_with (go_at_call 27; refine (HNC.out _ _ _ r5).mono ?_; rintro e w2 ⟨v, rfl, ho, hn'⟩); exact OpPost.some _ rfl rfl hn' ⟨v, rfl, ho.base (X.trans hx).size⟩
    refine From.step (N3F w.heap.size [] false 1) (N3F.mono) ?_ ?_
    · intro w' hx; have h0x := hx.cell h0; have h1x := hx.cell h1; have h2x := hx.cell h2; have h3x := hx.cell h3; have h5x := hx.cell h5; (try dsimp only [List.nil_append, List.cons_append]); dsimp only [DepsV, fat, eqF]; rintro v8 k8; go_wp2; exact OpPost.some _ rfl rfl (Ext.refl _) k8
    -- 10: t44
    refine From.step (OwnF w.heap.size []) OwnF.mono ?_ ?_
    · intro w' hx; have h0x := hx.cell h0; have h1x := hx.cell h1; have h2x := hx.cell h2; have h3x := hx.cell h3; have h5x := hx.cell h5; (try dsimp only [List.nil_append, List.cons_append]); dsimp only [DepsV, fat, eqF]; rintro v9_ h9_; obtain ⟨u, rfl, hu⟩ := h9_; go_wp2; exact OpPost.some _ rfl rfl (Ext.refl _) hu
    -- 11: t45
    with_reducible apply From.eq
    · intro w' hx; have h0x := hx.cell h0; have h1x := hx.cell h1; have h2x := hx.cell h2; have h3x := hx.cell h3; have h5x := hx.cell h5; (try dsimp only [List.nil_append, List.cons_append]); dsimp only [DepsV, fat, eqF]; rintro v9_ h9_; obtain ⟨u, rfl, hu⟩ := h9_; go_wp2; exact OpPost.some _ rfl rfl (Ext.refl _) rfl
    -- 12: t46
    with_reducible apply From.eq
    · intro w' hx; have h0x := hx.cell h0; have h1x := hx.cell h1; have h2x := hx.cell h2; have h3x := hx.cell h3; have h5x := hx.cell h5; (try dsimp only [List.nil_append, List.cons_append]); dsimp only [DepsV, fat, eqF]; rintro v9_ h9_; obtain ⟨u, rfl, hu⟩ := h9_; go_wp2; exact OpPost.some _ rfl rfl (Ext.refl _) rfl
    -- 13: t3
    refine From.step (OwnF w.heap.size []) OwnF.mono ?_ ?_
    · intro w' hx; have h0x := hx.cell h0; have h1x := hx.cell h1; have h2x := hx.cell h2; have h3x := hx.cell h3; have h5x := hx.cell h5; (try dsimp only [List.nil_append, List.cons_append]); dsimp only [DepsV, fat, eqF]; rintro v10 k10; go_wp2; exact OpPost.some _ rfl rfl (Ext.refl _) k10
    with_reducible apply From.eq
    · intro w' hx; have h0x := hx.cell h0; have h1x := hx.cell h1; have h2x := hx.cell h2; have h3x := hx.cell h3; have h5x := hx.cell h5; (try dsimp only [List.nil_append, List.cons_append]); dsimp only [DepsV, fat, eqF]; rintro _ rfl; go_wp2; exact OpPost.some _ rfl rfl (Ext.refl _) rfl
    with_reducible apply From.eq
    · intro w' hx; have h0x := hx.cell h0; have h1x := hx.cell h1; have h2x := hx.cell h2; have h3x := hx.cell h3; have h5x := hx.cell h5; (try dsimp only [List.nil_append, List.cons_append]); dsimp only [DepsV, fat, eqF]; rintro _ rfl; go_wp2; exact OpPost.some _ rfl rfl (Ext.refl _) rfl
    with_reducible refine From.fin ?_
    intro w' hx
    (try dsimp only [List.nil_append, List.cons_append]); dsimp only [EndV, eqF]; rintro _ rfl _ rfl _ rfl _ rfl _ rfl v5 k5 _ rfl _ rfl v8 k8 v9_ h9_ v10 k10 _ rfl _ rfl v13 k13 _ rfl _ rfl; simp only [Act.put, List.setIfInBounds_toArray, List.set_cons_zero, List.set_cons_succ]
    obtain ⟨u5, rfl, _⟩ := k8
    obtain ⟨u6, rfl, _⟩ := h9_
    replace h0 := hx.cell h0
    replace h1 := hx.cell h1
    replace h2 := hx.cell h2
    replace h3 := hx.cell h3
    replace h4 := hx.cell h4
    replace h5 := hx.cell h5
    replace X := X.trans hx
    clear hx k5 k10
    obtain ⟨u_a, u_c, hvv, _, _⟩ := Own.formN6 k13 0 rfl
    subst hvv
    clear k13
    go_wp2_with fail
    refine (HRV.out _).mono ?_; rintro e w5 ⟨rfl, x⟩
    replace h0 := x.cell h0
    replace h1 := x.cell h1
    replace h2 := x.cell h2
    replace h3 := x.cell h3
    replace h4 := x.cell h4
    replace h5 := x.cell h5
    replace X := X.trans x
    clear x
    go_wp2_with fail
    refine (HRVC.out _).mono ?_; rintro e w6 ⟨rfl, x⟩
    replace h0 := x.cell h0
    replace h1 := x.cell h1
    replace h2 := x.cell h2
    replace h3 := x.cell h3
    replace h4 := x.cell h4
    replace h5 := x.cell h5
    replace X := X.trans x
    clear x
    go_wp2_with fail
    go_ret
    exact ⟨rfl, X⟩
  have tn : ((l.length : Int) != n) = false := bne_eq_false_iff_eq.2 hln
  have HLN := Lib.hid hln
  by_cases he0 : 0 ≤ e
  case neg =>
    clear hln
    have hbad : ¬ (cval p n k = true ∧ (l.length : Int) = n ∧ 0 ≤ e ∧ e ≤ (n - k) / 2) := fun h => he0 h.2.2.1
    have en : cNear p n k l e = (none, 1) := by unfold cNear; rw [if_neg (by rw [hv]; simp), if_neg hbad]
    rw [en] at NC
    have HNC : Hid (∀ w' (a : Option Addr) (c : Nat), Rd w' a l → Calls Try.prog 27 #[.agg #[.int .u64 p, .int .i64 n, .int .i64 k], .slice a l.length c, .int .i64 e] w' fun e w'' => ∃ v, e = .returned (.tuple #[v, .bool false, .int .i64 1]) ∧ Own w'' w'.heap.size v [] ∧ Ext w' w'') := Lib.hid (fun w' a c h => NC w' a c h)
    have HRVC := Lib.hid RVC
    clear NC RVC en hbad
    rw [hc] at HRVC
    clear hv hc
    go_enter Try.func5, Try.ntmps5
    go_wp2_with fail
    refine (awake6_c _).mono ?_; rintro e w1 ⟨rfl, x0⟩
    replace h0 := x0.cell h0
    replace h1 := x0.cell h1
    replace h2 := x0.cell h2
    replace h3 := x0.cell h3
    replace h4 := x0.cell h4
    replace h5 := x0.cell h5
    have X := x0.box
    clear x0
    go_wp2_with fail
    refine (SC.out _ _ (by simp)).mono ?_; rintro e w2 ⟨rfl, x⟩
    replace h0 := x.box.cell h0
    replace h1 := x.box.cell h1
    replace h2 := x.box.cell h2
    replace h3 := x.box.cell h3
    replace h4 := x.box.cell h4
    replace h5 := x.box.cell h5
    replace X := X.trans x.box
    clear x
    go_wp2_with fail
    refine (HRVC.out _).mono ?_; rintro e w3 ⟨rfl, x⟩
    replace h0 := x.cell h0
    replace h1 := x.cell h1
    replace h2 := x.cell h2
    replace h3 := x.cell h3
    replace h4 := x.cell h4
    replace h5 := x.cell h5
    replace X := X.trans x
    clear x
    go_wp2_with fail
    refine (MC.out _).mono ?_; rintro e w4 ⟨rfl, x⟩
    replace h0 := x.cell h0
    replace h1 := x.cell h1
    replace h2 := x.cell h2
    replace h3 := x.cell h3
    replace h4 := x.cell h4
    replace h5 := x.cell h5
    replace X := X.trans x
    clear x
    go_wp2_with fail
    refine region_facts [[], [(0, 35)], [(1, 36)], [], [(3, 38)], [(4, 39)], [], [(6, 41)], [(2, 37), (5, 40), (7, 42)], [(8, 43)], [(9, 34)], [(9, 34)], [(9, 34)], [(10, 44)], [(11, 45)], [(12, 46)]] [some 35, some 36, some 37, some 38, some 39, some 40, some 41, some 42, some 43, some 34, some 44, some 45, some 46, some 3, some 4, some 5] (by kernel_rfl) (by kernel_rfl) ?_
    with_reducible apply From.eq
    · intro w' hx; have h0x := hx.cell h0; have h1x := hx.cell h1; have h2x := hx.cell h2; have h3x := hx.cell h3; have h5x := hx.cell h5; (try dsimp only [List.nil_append, List.cons_append]); dsimp only [DepsV, fat, eqF]; go_wp2; exact OpPost.some _ rfl rfl (Ext.refl _) rfl
    with_reducible apply From.eq
    · intro w' hx; have h0x := hx.cell h0; have h1x := hx.cell h1; have h2x := hx.cell h2; have h3x := hx.cell h3; have h5x := hx.cell h5; (try dsimp only [List.nil_append, List.cons_append]); dsimp only [DepsV, fat, eqF]; rintro _ rfl; go_wp2; exact OpPost.some _ rfl rfl (Ext.refl _) rfl
    with_reducible apply From.eq
    · intro w' hx; have h0x := hx.cell h0; have h1x := hx.cell h1; have h2x := hx.cell h2; have h3x := hx.cell h3; have h5x := hx.cell h5; (try dsimp only [List.nil_append, List.cons_append]); dsimp only [DepsV, fat, eqF]; rintro _ rfl; go_wp2_with (go_at_call 15; refine (of_c p n k _).mono ?_; rintro e w2 ⟨rfl, hb2⟩); exact OpPost.some _ rfl rfl hb2 rfl
    with_reducible apply From.eq
    · intro w' hx; have h0x := hx.cell h0; have h1x := hx.cell h1; have h2x := hx.cell h2; have h3x := hx.cell h3; have h5x := hx.cell h5; (try dsimp only [List.nil_append, List.cons_append]); dsimp only [DepsV, fat, eqF]; go_wp2; exact OpPost.some _ rfl rfl (Ext.refl _) rfl
    with_reducible apply From.eq
    · intro w' hx; have h0x := hx.cell h0; have h1x := hx.cell h1; have h2x := hx.cell h2; have h3x := hx.cell h3; have h5x := hx.cell h5; (try dsimp only [List.nil_append, List.cons_append]); dsimp only [DepsV, fat, eqF]; rintro _ rfl; go_wp2; exact OpPost.some _ rfl rfl (Ext.refl _) rfl
    refine From.step (OwnF w.heap.size l) (OwnF.mono) ?_ ?_
    · intro w' hx; have h0x := hx.cell h0; have h1x := hx.cell h1; have h2x := hx.cell h2; have h3x := hx.cell h3; have h5x := hx.cell h5; (try dsimp only [List.nil_append, List.cons_append]); dsimp only [DepsV, fat, eqF]; rintro _ rfl; skip;
      go_wp2_with (go_at_call 16; refine (OCA.out _ _ _ (HA.out.ext (X.trans hx))).mono ?_; rintro e w2 ⟨v, rfl, ho, hn'⟩); exact OpPost.some _ rfl rfl hn' (ho.base (X.trans hx).size)
    with_reducible apply From.eq
    · intro w' hx; have h0x := hx.cell h0; have h1x := hx.cell h1; have h2x := hx.cell h2; have h3x := hx.cell h3; have h5x := hx.cell h5; (try dsimp only [List.nil_append, List.cons_append]); dsimp only [DepsV, fat, eqF]; go_wp2; exact OpPost.some _ rfl rfl (Ext.refl _) rfl
    with_reducible apply From.eq
    · intro w' hx; have h0x := hx.cell h0; have h1x := hx.cell h1; have h2x := hx.cell h2; have h3x := hx.cell h3; have h5x := hx.cell h5; (try dsimp only [List.nil_append, List.cons_append]); dsimp only [DepsV, fat, eqF]; rintro _ rfl; go_wp2; exact OpPost.some _ rfl rfl (Ext.refl _) rfl
    refine From.step (N3F w.heap.size [] false 1) (N3F.mono) ?_ ?_
    · intro w' hx; have h0x := hx.cell h0; have h1x := hx.cell h1; have h2x := hx.cell h2; have h3x := hx.cell h3; have h5x := hx.cell h5; (try dsimp only [List.nil_append, List.cons_append]); dsimp only [DepsV, fat, eqF]; rintro _ rfl; rintro v5 k5; rintro _ rfl; obtain ⟨a5, c5, rfl, _, _, r5⟩ := Own.form k5;
      go_wp2_with (go_at_call 27; refine (HNC.out _ _ _ r5).mono ?_; rintro e w2 ⟨v, rfl, ho, hn'⟩); exact OpPost.some _ rfl rfl hn' ⟨v, rfl, ho.base (X.trans hx).size⟩
    refine From.step (N3F w.heap.size [] false 1) (N3F.mono) ?_ ?_
    · intro w' hx; have h0x := hx.cell h0; have h1x := hx.cell h1; have h2x := hx.cell h2; have h3x := hx.cell h3; have h5x := hx.cell h5; (try dsimp only [List.nil_append, List.cons_append]); dsimp only [DepsV, fat, eqF]; rintro v8 k8; go_wp2; exact OpPost.some _ rfl rfl (Ext.refl _) k8
    -- 10: t44
    refine From.step (OwnF w.heap.size []) OwnF.mono ?_ ?_
    · intro w' hx; have h0x := hx.cell h0; have h1x := hx.cell h1; have h2x := hx.cell h2; have h3x := hx.cell h3; have h5x := hx.cell h5; (try dsimp only [List.nil_append, List.cons_append]); dsimp only [DepsV, fat, eqF]; rintro v9_ h9_; obtain ⟨u, rfl, hu⟩ := h9_; go_wp2; exact OpPost.some _ rfl rfl (Ext.refl _) hu
    -- 11: t45
    with_reducible apply From.eq
    · intro w' hx; have h0x := hx.cell h0; have h1x := hx.cell h1; have h2x := hx.cell h2; have h3x := hx.cell h3; have h5x := hx.cell h5; (try dsimp only [List.nil_append, List.cons_append]); dsimp only [DepsV, fat, eqF]; rintro v9_ h9_; obtain ⟨u, rfl, hu⟩ := h9_; go_wp2; exact OpPost.some _ rfl rfl (Ext.refl _) rfl
    -- 12: t46
    with_reducible apply From.eq
    · intro w' hx; have h0x := hx.cell h0; have h1x := hx.cell h1; have h2x := hx.cell h2; have h3x := hx.cell h3; have h5x := hx.cell h5; (try dsimp only [List.nil_append, List.cons_append]); dsimp only [DepsV, fat, eqF]; rintro v9_ h9_; obtain ⟨u, rfl, hu⟩ := h9_; go_wp2; exact OpPost.some _ rfl rfl (Ext.refl _) rfl
    -- 13: t3
    refine From.step (OwnF w.heap.size []) OwnF.mono ?_ ?_
    · intro w' hx; have h0x := hx.cell h0; have h1x := hx.cell h1; have h2x := hx.cell h2; have h3x := hx.cell h3; have h5x := hx.cell h5; (try dsimp only [List.nil_append, List.cons_append]); dsimp only [DepsV, fat, eqF]; rintro v10 k10; go_wp2; exact OpPost.some _ rfl rfl (Ext.refl _) k10
    with_reducible apply From.eq
    · intro w' hx; have h0x := hx.cell h0; have h1x := hx.cell h1; have h2x := hx.cell h2; have h3x := hx.cell h3; have h5x := hx.cell h5; (try dsimp only [List.nil_append, List.cons_append]); dsimp only [DepsV, fat, eqF]; rintro _ rfl; go_wp2; exact OpPost.some _ rfl rfl (Ext.refl _) rfl
    with_reducible apply From.eq
    · intro w' hx; have h0x := hx.cell h0; have h1x := hx.cell h1; have h2x := hx.cell h2; have h3x := hx.cell h3; have h5x := hx.cell h5; (try dsimp only [List.nil_append, List.cons_append]); dsimp only [DepsV, fat, eqF]; rintro _ rfl; go_wp2; exact OpPost.some _ rfl rfl (Ext.refl _) rfl
    with_reducible refine From.fin ?_
    intro w' hx
    (try dsimp only [List.nil_append, List.cons_append]); dsimp only [EndV, eqF]; rintro _ rfl _ rfl _ rfl _ rfl _ rfl v5 k5 _ rfl _ rfl v8 k8 v9_ h9_ v10 k10 _ rfl _ rfl v13 k13 _ rfl _ rfl; simp only [Act.put, List.setIfInBounds_toArray, List.set_cons_zero, List.set_cons_succ]
    obtain ⟨u5, rfl, _⟩ := k8
    obtain ⟨u6, rfl, _⟩ := h9_
    replace h0 := hx.cell h0
    replace h1 := hx.cell h1
    replace h2 := hx.cell h2
    replace h3 := hx.cell h3
    replace h4 := hx.cell h4
    replace h5 := hx.cell h5
    replace X := X.trans hx
    clear hx k5 k10
    obtain ⟨u_a, u_c, hvv, _, _⟩ := Own.formN6 k13 0 rfl
    subst hvv
    clear k13
    go_wp2_with fail
    refine (HRV.out _).mono ?_; rintro e w5 ⟨rfl, x⟩
    replace h0 := x.cell h0
    replace h1 := x.cell h1
    replace h2 := x.cell h2
    replace h3 := x.cell h3
    replace h4 := x.cell h4
    replace h5 := x.cell h5
    replace X := X.trans x
    clear x
    go_wp2_with fail
    refine (HRVC.out _).mono ?_; rintro e w6 ⟨rfl, x⟩
    replace h0 := x.cell h0
    replace h1 := x.cell h1
    replace h2 := x.cell h2
    replace h3 := x.cell h3
    replace h4 := x.cell h4
    replace h5 := x.cell h5
    replace X := X.trans x
    clear x
    go_wp2_with fail
    go_ret
    exact ⟨rfl, X⟩
  by_cases he1 : e ≤ (n - k) / 2
  case neg =>
    clear hln
    have hbad : ¬ (cval p n k = true ∧ (l.length : Int) = n ∧ 0 ≤ e ∧ e ≤ (n - k) / 2) := fun h => he1 h.2.2.2
    have en : cNear p n k l e = (none, 1) := by unfold cNear; rw [if_neg (by rw [hv]; simp), if_neg hbad]
    rw [en] at NC
    have HNC : Hid (∀ w' (a : Option Addr) (c : Nat), Rd w' a l → Calls Try.prog 27 #[.agg #[.int .u64 p, .int .i64 n, .int .i64 k], .slice a l.length c, .int .i64 e] w' fun e w'' => ∃ v, e = .returned (.tuple #[v, .bool false, .int .i64 1]) ∧ Own w'' w'.heap.size v [] ∧ Ext w' w'') := Lib.hid (fun w' a c h => NC w' a c h)
    have HRVC := Lib.hid RVC
    clear NC RVC en hbad
    rw [hc] at HRVC
    clear hv hc
    go_enter Try.func5, Try.ntmps5
    go_wp2_with fail
    refine (awake6_c _).mono ?_; rintro e w1 ⟨rfl, x0⟩
    replace h0 := x0.cell h0
    replace h1 := x0.cell h1
    replace h2 := x0.cell h2
    replace h3 := x0.cell h3
    replace h4 := x0.cell h4
    replace h5 := x0.cell h5
    have X := x0.box
    clear x0
    go_wp2_with fail
    refine (SC.out _ _ (by simp)).mono ?_; rintro e w2 ⟨rfl, x⟩
    replace h0 := x.box.cell h0
    replace h1 := x.box.cell h1
    replace h2 := x.box.cell h2
    replace h3 := x.box.cell h3
    replace h4 := x.box.cell h4
    replace h5 := x.box.cell h5
    replace X := X.trans x.box
    clear x
    go_wp2_with fail
    refine (HRVC.out _).mono ?_; rintro e w3 ⟨rfl, x⟩
    replace h0 := x.cell h0
    replace h1 := x.cell h1
    replace h2 := x.cell h2
    replace h3 := x.cell h3
    replace h4 := x.cell h4
    replace h5 := x.cell h5
    replace X := X.trans x
    clear x
    go_wp2_with fail
    refine (MC.out _).mono ?_; rintro e w4 ⟨rfl, x⟩
    replace h0 := x.cell h0
    replace h1 := x.cell h1
    replace h2 := x.cell h2
    replace h3 := x.cell h3
    replace h4 := x.cell h4
    replace h5 := x.cell h5
    replace X := X.trans x
    clear x
    go_wp2_with fail
    refine region_facts [[], [(0, 35)], [(1, 36)], [], [(3, 38)], [(4, 39)], [], [(6, 41)], [(2, 37), (5, 40), (7, 42)], [(8, 43)], [(9, 34)], [(9, 34)], [(9, 34)], [(10, 44)], [(11, 45)], [(12, 46)]] [some 35, some 36, some 37, some 38, some 39, some 40, some 41, some 42, some 43, some 34, some 44, some 45, some 46, some 3, some 4, some 5] (by kernel_rfl) (by kernel_rfl) ?_
    with_reducible apply From.eq
    · intro w' hx; have h0x := hx.cell h0; have h1x := hx.cell h1; have h2x := hx.cell h2; have h3x := hx.cell h3; have h5x := hx.cell h5; (try dsimp only [List.nil_append, List.cons_append]); dsimp only [DepsV, fat, eqF]; go_wp2; exact OpPost.some _ rfl rfl (Ext.refl _) rfl
    with_reducible apply From.eq
    · intro w' hx; have h0x := hx.cell h0; have h1x := hx.cell h1; have h2x := hx.cell h2; have h3x := hx.cell h3; have h5x := hx.cell h5; (try dsimp only [List.nil_append, List.cons_append]); dsimp only [DepsV, fat, eqF]; rintro _ rfl; go_wp2; exact OpPost.some _ rfl rfl (Ext.refl _) rfl
    with_reducible apply From.eq
    · intro w' hx; have h0x := hx.cell h0; have h1x := hx.cell h1; have h2x := hx.cell h2; have h3x := hx.cell h3; have h5x := hx.cell h5; (try dsimp only [List.nil_append, List.cons_append]); dsimp only [DepsV, fat, eqF]; rintro _ rfl; go_wp2_with (go_at_call 15; refine (of_c p n k _).mono ?_; rintro e w2 ⟨rfl, hb2⟩); exact OpPost.some _ rfl rfl hb2 rfl
    with_reducible apply From.eq
    · intro w' hx; have h0x := hx.cell h0; have h1x := hx.cell h1; have h2x := hx.cell h2; have h3x := hx.cell h3; have h5x := hx.cell h5; (try dsimp only [List.nil_append, List.cons_append]); dsimp only [DepsV, fat, eqF]; go_wp2; exact OpPost.some _ rfl rfl (Ext.refl _) rfl
    with_reducible apply From.eq
    · intro w' hx; have h0x := hx.cell h0; have h1x := hx.cell h1; have h2x := hx.cell h2; have h3x := hx.cell h3; have h5x := hx.cell h5; (try dsimp only [List.nil_append, List.cons_append]); dsimp only [DepsV, fat, eqF]; rintro _ rfl; go_wp2; exact OpPost.some _ rfl rfl (Ext.refl _) rfl
    refine From.step (OwnF w.heap.size l) (OwnF.mono) ?_ ?_
    · intro w' hx; have h0x := hx.cell h0; have h1x := hx.cell h1; have h2x := hx.cell h2; have h3x := hx.cell h3; have h5x := hx.cell h5; (try dsimp only [List.nil_append, List.cons_append]); dsimp only [DepsV, fat, eqF]; rintro _ rfl; skip;
      go_wp2_with (go_at_call 16; refine (OCA.out _ _ _ (HA.out.ext (X.trans hx))).mono ?_; rintro e w2 ⟨v, rfl, ho, hn'⟩); exact OpPost.some _ rfl rfl hn' (ho.base (X.trans hx).size)
    with_reducible apply From.eq
    · intro w' hx; have h0x := hx.cell h0; have h1x := hx.cell h1; have h2x := hx.cell h2; have h3x := hx.cell h3; have h5x := hx.cell h5; (try dsimp only [List.nil_append, List.cons_append]); dsimp only [DepsV, fat, eqF]; go_wp2; exact OpPost.some _ rfl rfl (Ext.refl _) rfl
    with_reducible apply From.eq
    · intro w' hx; have h0x := hx.cell h0; have h1x := hx.cell h1; have h2x := hx.cell h2; have h3x := hx.cell h3; have h5x := hx.cell h5; (try dsimp only [List.nil_append, List.cons_append]); dsimp only [DepsV, fat, eqF]; rintro _ rfl; go_wp2; exact OpPost.some _ rfl rfl (Ext.refl _) rfl
    refine From.step (N3F w.heap.size [] false 1) (N3F.mono) ?_ ?_
    · intro w' hx; have h0x := hx.cell h0; have h1x := hx.cell h1; have h2x := hx.cell h2; have h3x := hx.cell h3; have h5x := hx.cell h5; (try dsimp only [List.nil_append, List.cons_append]); dsimp only [DepsV, fat, eqF]; rintro _ rfl; rintro v5 k5; rintro _ rfl; obtain ⟨a5, c5, rfl, _, _, r5⟩ := Own.form k5;
      go_wp2_with (go_at_call 27; refine (HNC.out _ _ _ r5).mono ?_; rintro e w2 ⟨v, rfl, ho, hn'⟩); exact OpPost.some _ rfl rfl hn' ⟨v, rfl, ho.base (X.trans hx).size⟩
    refine From.step (N3F w.heap.size [] false 1) (N3F.mono) ?_ ?_
    · intro w' hx; have h0x := hx.cell h0; have h1x := hx.cell h1; have h2x := hx.cell h2; have h3x := hx.cell h3; have h5x := hx.cell h5; (try dsimp only [List.nil_append, List.cons_append]); dsimp only [DepsV, fat, eqF]; rintro v8 k8; go_wp2; exact OpPost.some _ rfl rfl (Ext.refl _) k8
    -- 10: t44
    refine From.step (OwnF w.heap.size []) OwnF.mono ?_ ?_
    · intro w' hx; have h0x := hx.cell h0; have h1x := hx.cell h1; have h2x := hx.cell h2; have h3x := hx.cell h3; have h5x := hx.cell h5; (try dsimp only [List.nil_append, List.cons_append]); dsimp only [DepsV, fat, eqF]; rintro v9_ h9_; obtain ⟨u, rfl, hu⟩ := h9_; go_wp2; exact OpPost.some _ rfl rfl (Ext.refl _) hu
    -- 11: t45
    with_reducible apply From.eq
    · intro w' hx; have h0x := hx.cell h0; have h1x := hx.cell h1; have h2x := hx.cell h2; have h3x := hx.cell h3; have h5x := hx.cell h5; (try dsimp only [List.nil_append, List.cons_append]); dsimp only [DepsV, fat, eqF]; rintro v9_ h9_; obtain ⟨u, rfl, hu⟩ := h9_; go_wp2; exact OpPost.some _ rfl rfl (Ext.refl _) rfl
    -- 12: t46
    with_reducible apply From.eq
    · intro w' hx; have h0x := hx.cell h0; have h1x := hx.cell h1; have h2x := hx.cell h2; have h3x := hx.cell h3; have h5x := hx.cell h5; (try dsimp only [List.nil_append, List.cons_append]); dsimp only [DepsV, fat, eqF]; rintro v9_ h9_; obtain ⟨u, rfl, hu⟩ := h9_; go_wp2; exact OpPost.some _ rfl rfl (Ext.refl _) rfl
    -- 13: t3
    refine From.step (OwnF w.heap.size []) OwnF.mono ?_ ?_
    · intro w' hx; have h0x := hx.cell h0; have h1x := hx.cell h1; have h2x := hx.cell h2; have h3x := hx.cell h3; have h5x := hx.cell h5; (try dsimp only [List.nil_append, List.cons_append]); dsimp only [DepsV, fat, eqF]; rintro v10 k10; go_wp2; exact OpPost.some _ rfl rfl (Ext.refl _) k10
    with_reducible apply From.eq
    · intro w' hx; have h0x := hx.cell h0; have h1x := hx.cell h1; have h2x := hx.cell h2; have h3x := hx.cell h3; have h5x := hx.cell h5; (try dsimp only [List.nil_append, List.cons_append]); dsimp only [DepsV, fat, eqF]; rintro _ rfl; go_wp2; exact OpPost.some _ rfl rfl (Ext.refl _) rfl
    with_reducible apply From.eq
    · intro w' hx; have h0x := hx.cell h0; have h1x := hx.cell h1; have h2x := hx.cell h2; have h3x := hx.cell h3; have h5x := hx.cell h5; (try dsimp only [List.nil_append, List.cons_append]); dsimp only [DepsV, fat, eqF]; rintro _ rfl; go_wp2; exact OpPost.some _ rfl rfl (Ext.refl _) rfl
    with_reducible refine From.fin ?_
    intro w' hx
    (try dsimp only [List.nil_append, List.cons_append]); dsimp only [EndV, eqF]; rintro _ rfl _ rfl _ rfl _ rfl _ rfl v5 k5 _ rfl _ rfl v8 k8 v9_ h9_ v10 k10 _ rfl _ rfl v13 k13 _ rfl _ rfl; simp only [Act.put, List.setIfInBounds_toArray, List.set_cons_zero, List.set_cons_succ]
    obtain ⟨u5, rfl, _⟩ := k8
    obtain ⟨u6, rfl, _⟩ := h9_
    replace h0 := hx.cell h0
    replace h1 := hx.cell h1
    replace h2 := hx.cell h2
    replace h3 := hx.cell h3
    replace h4 := hx.cell h4
    replace h5 := hx.cell h5
    replace X := X.trans hx
    clear hx k5 k10
    obtain ⟨u_a, u_c, hvv, _, _⟩ := Own.formN6 k13 0 rfl
    subst hvv
    clear k13
    go_wp2_with fail
    refine (HRV.out _).mono ?_; rintro e w5 ⟨rfl, x⟩
    replace h0 := x.cell h0
    replace h1 := x.cell h1
    replace h2 := x.cell h2
    replace h3 := x.cell h3
    replace h4 := x.cell h4
    replace h5 := x.cell h5
    replace X := X.trans x
    clear x
    go_wp2_with fail
    refine (HRVC.out _).mono ?_; rintro e w6 ⟨rfl, x⟩
    replace h0 := x.cell h0
    replace h1 := x.cell h1
    replace h2 := x.cell h2
    replace h3 := x.cell h3
    replace h4 := x.cell h4
    replace h5 := x.cell h5
    replace X := X.trans x
    clear x
    go_wp2_with fail
    go_ret
    exact ⟨rfl, X⟩
  obtain ⟨N, hN⟩ : ∃ N : Nat, N = n.toNat := ⟨_, rfl⟩
  have hnN : n = (N : Int) := by omega
  have HNN := Lib.hid hnN
  have hgood : cNear p n k l e = (nearM p N K l e, 0) := by
    unfold cNear
    rw [if_neg (by rw [hv]; simp), if_pos ⟨hc, hln, he0, he1⟩, ← hN, HKK.out, Int.toNat_natCast]
  have hsame : rNear p N K l e = nearM p N K l e := by
    obtain ⟨_, e1, K1, N1, _, q2, q3, q4, _, q6, _, q8, _⟩ := cval_spec hc
    have hk1 := HKK.out
    obtain rfl : N1 = N := by omega
    obtain rfl : K1 = K := by omega
    subst q2
    exact near_same2 hv q8 q6 l (by omega) e (by omega)
  have hlx : ((nearM p N K l e).getD []).length ≤ 256 := by
    cases h : nearM p N K l e with
    | none => simp
    | some x =>
      obtain ⟨f, _, hx, _⟩ := near_sound h
      show x.length ≤ 256
      rw [hx, cword_len]; omega
  have RN : Hid (∀ w', Rd w' a l → Calls Try.prog 28 #[.agg #[.int .u64 p, .int .i64 n, .int .i64 k], .slice a l.length c, .int .i64 e] w' (NPost w' (nearM p N K l e))) := Lib.hid (fun w' h => by
    have q := RNear_c p N K l e a c w' (by rw [← HNN.out, ← HKK.out]; exact hc) h (by omega)
    rw [hsame, ← HNN.out, ← HKK.out] at q
    exact q)
  rw [hgood] at NC
  obtain ⟨o, ho⟩ : ∃ o, o = nearM p N K l e := ⟨_, rfl⟩
  rw [← ho] at RN NC hlx
  obtain ⟨bb, hbb⟩ : ∃ bb, bb = o.isSome := ⟨_, rfl⟩
  obtain ⟨lo, hlo⟩ : ∃ lo, lo = o.getD [] := ⟨_, rfl⟩
  have HNC : Hid (∀ w' (a : Option Addr) (c : Nat), Rd w' a l → Calls Try.prog 27 #[.agg #[.int .u64 p, .int .i64 n, .int .i64 k], .slice a l.length c, .int .i64 e] w' fun e w'' => ∃ v, e = .returned (.tuple #[v, .bool bb, .int .i64 0]) ∧ Own w'' w'.heap.size v lo ∧ Ext w' w'') := Lib.hid (fun w' a c h => by rw [hbb, hlo]; exact NC w' a c h)
  have RN2 : Hid (∀ w', Rd w' a l → Calls Try.prog 28 #[.agg #[.int .u64 p, .int .i64 n, .int .i64 k], .slice a l.length c, .int .i64 e] w' fun e w'' => ∃ v, e = .returned (.tuple #[v, .bool bb]) ∧ Own w'' w'.heap.size v lo ∧ Ext w' w'') := Lib.hid (fun w' h => by rw [hbb, hlo]; exact RN.out w' h)
  rw [← hlo] at hlx
  have tb : (bb == bb) = true := by simp
  rw [hc] at RVC
  have HRVC := Lib.hid RVC
  clear NC RVC RN hgood hsame ho hbb hlo hv hc hln hnN hN
  go_enter Try.func5, Try.ntmps5
  go_wp2_with fail
  refine (awake6_c _).mono ?_; rintro e w1 ⟨rfl, x0⟩
  replace h0 := x0.cell h0
  replace h1 := x0.cell h1
  replace h2 := x0.cell h2
  replace h3 := x0.cell h3
  replace h4 := x0.cell h4
  replace h5 := x0.cell h5
  have X := x0.box
  clear x0
  go_wp2_with fail
  refine (SC.out _ _ (by simp)).mono ?_; rintro e w2 ⟨rfl, x⟩
  replace h0 := x.box.cell h0
  replace h1 := x.box.cell h1
  replace h2 := x.box.cell h2
  replace h3 := x.box.cell h3
  replace h4 := x.box.cell h4
  replace h5 := x.box.cell h5
  replace X := X.trans x.box
  clear x
  go_wp2_with fail
  refine (HRVC.out _).mono ?_; rintro e w3 ⟨rfl, x⟩
  replace h0 := x.cell h0
  replace h1 := x.cell h1
  replace h2 := x.cell h2
  replace h3 := x.cell h3
  replace h4 := x.cell h4
  replace h5 := x.cell h5
  replace X := X.trans x
  clear x
  go_wp2_with fail
  refine (MC.out _).mono ?_; rintro e w4 ⟨rfl, x⟩
  replace h0 := x.cell h0
  replace h1 := x.cell h1
  replace h2 := x.cell h2
  replace h3 := x.cell h3
  replace h4 := x.cell h4
  replace h5 := x.cell h5
  replace X := X.trans x
  clear x
  go_wp2_with fail
  refine region_facts [[], [(0, 35)], [(1, 36)], [], [(3, 38)], [(4, 39)], [], [(6, 41)], [(2, 37), (5, 40), (7, 42)], [(8, 43)], [(9, 34)], [(9, 34)], [(9, 34)], [(10, 44)], [(11, 45)], [(12, 46)]] [some 35, some 36, some 37, some 38, some 39, some 40, some 41, some 42, some 43, some 34, some 44, some 45, some 46, some 3, some 4, some 5] (by kernel_rfl) (by kernel_rfl) ?_
  with_reducible apply From.eq
  · intro w' hx; have h0x := hx.cell h0; have h1x := hx.cell h1; have h2x := hx.cell h2; have h3x := hx.cell h3; have h5x := hx.cell h5; (try dsimp only [List.nil_append, List.cons_append]); dsimp only [DepsV, fat, eqF]; go_wp2; exact OpPost.some _ rfl rfl (Ext.refl _) rfl
  with_reducible apply From.eq
  · intro w' hx; have h0x := hx.cell h0; have h1x := hx.cell h1; have h2x := hx.cell h2; have h3x := hx.cell h3; have h5x := hx.cell h5; (try dsimp only [List.nil_append, List.cons_append]); dsimp only [DepsV, fat, eqF]; rintro _ rfl; go_wp2; exact OpPost.some _ rfl rfl (Ext.refl _) rfl
  with_reducible apply From.eq
  · intro w' hx; have h0x := hx.cell h0; have h1x := hx.cell h1; have h2x := hx.cell h2; have h3x := hx.cell h3; have h5x := hx.cell h5; (try dsimp only [List.nil_append, List.cons_append]); dsimp only [DepsV, fat, eqF]; rintro _ rfl; go_wp2_with (go_at_call 15; refine (of_c p n k _).mono ?_; rintro e w2 ⟨rfl, hb2⟩); exact OpPost.some _ rfl rfl hb2 rfl
  with_reducible apply From.eq
  · intro w' hx; have h0x := hx.cell h0; have h1x := hx.cell h1; have h2x := hx.cell h2; have h3x := hx.cell h3; have h5x := hx.cell h5; (try dsimp only [List.nil_append, List.cons_append]); dsimp only [DepsV, fat, eqF]; go_wp2; exact OpPost.some _ rfl rfl (Ext.refl _) rfl
  with_reducible apply From.eq
  · intro w' hx; have h0x := hx.cell h0; have h1x := hx.cell h1; have h2x := hx.cell h2; have h3x := hx.cell h3; have h5x := hx.cell h5; (try dsimp only [List.nil_append, List.cons_append]); dsimp only [DepsV, fat, eqF]; rintro _ rfl; go_wp2; exact OpPost.some _ rfl rfl (Ext.refl _) rfl
  refine From.step (OwnF w.heap.size l) (OwnF.mono) ?_ ?_
  · intro w' hx; have h0x := hx.cell h0; have h1x := hx.cell h1; have h2x := hx.cell h2; have h3x := hx.cell h3; have h5x := hx.cell h5; (try dsimp only [List.nil_append, List.cons_append]); dsimp only [DepsV, fat, eqF]; rintro _ rfl; skip;
    go_wp2_with (go_at_call 16; refine (OCA.out _ _ _ (HA.out.ext (X.trans hx))).mono ?_; rintro e w2 ⟨v, rfl, ho, hn'⟩); exact OpPost.some _ rfl rfl hn' (ho.base (X.trans hx).size)
  with_reducible apply From.eq
  · intro w' hx; have h0x := hx.cell h0; have h1x := hx.cell h1; have h2x := hx.cell h2; have h3x := hx.cell h3; have h5x := hx.cell h5; (try dsimp only [List.nil_append, List.cons_append]); dsimp only [DepsV, fat, eqF]; go_wp2; exact OpPost.some _ rfl rfl (Ext.refl _) rfl
  with_reducible apply From.eq
  · intro w' hx; have h0x := hx.cell h0; have h1x := hx.cell h1; have h2x := hx.cell h2; have h3x := hx.cell h3; have h5x := hx.cell h5; (try dsimp only [List.nil_append, List.cons_append]); dsimp only [DepsV, fat, eqF]; rintro _ rfl; go_wp2; exact OpPost.some _ rfl rfl (Ext.refl _) rfl
  refine From.step (N3F w.heap.size lo bb 0) (N3F.mono) ?_ ?_
  · intro w' hx; have h0x := hx.cell h0; have h1x := hx.cell h1; have h2x := hx.cell h2; have h3x := hx.cell h3; have h5x := hx.cell h5; (try dsimp only [List.nil_append, List.cons_append]); dsimp only [DepsV, fat, eqF]; rintro _ rfl; rintro v5 k5; rintro _ rfl; obtain ⟨a5, c5, rfl, _, _, r5⟩ := Own.form k5;
    go_wp2_with (go_at_call 27; refine (HNC.out _ _ _ r5).mono ?_; rintro e w2 ⟨v, rfl, ho, hn'⟩); exact OpPost.some _ rfl rfl hn' ⟨v, rfl, ho.base (X.trans hx).size⟩
  refine From.step (N3F w.heap.size lo bb 0) (N3F.mono) ?_ ?_
  · intro w' hx; have h0x := hx.cell h0; have h1x := hx.cell h1; have h2x := hx.cell h2; have h3x := hx.cell h3; have h5x := hx.cell h5; (try dsimp only [List.nil_append, List.cons_append]); dsimp only [DepsV, fat, eqF]; rintro v8 k8; go_wp2; exact OpPost.some _ rfl rfl (Ext.refl _) k8
  -- 10: t44
  refine From.step (OwnF w.heap.size lo) OwnF.mono ?_ ?_
  · intro w' hx; have h0x := hx.cell h0; have h1x := hx.cell h1; have h2x := hx.cell h2; have h3x := hx.cell h3; have h5x := hx.cell h5; (try dsimp only [List.nil_append, List.cons_append]); dsimp only [DepsV, fat, eqF]; rintro v9_ h9_; obtain ⟨u, rfl, hu⟩ := h9_; go_wp2; exact OpPost.some _ rfl rfl (Ext.refl _) hu
  -- 11: t45
  with_reducible apply From.eq
  · intro w' hx; have h0x := hx.cell h0; have h1x := hx.cell h1; have h2x := hx.cell h2; have h3x := hx.cell h3; have h5x := hx.cell h5; (try dsimp only [List.nil_append, List.cons_append]); dsimp only [DepsV, fat, eqF]; rintro v9_ h9_; obtain ⟨u, rfl, hu⟩ := h9_; go_wp2; exact OpPost.some _ rfl rfl (Ext.refl _) rfl
  -- 12: t46
  with_reducible apply From.eq
  · intro w' hx; have h0x := hx.cell h0; have h1x := hx.cell h1; have h2x := hx.cell h2; have h3x := hx.cell h3; have h5x := hx.cell h5; (try dsimp only [List.nil_append, List.cons_append]); dsimp only [DepsV, fat, eqF]; rintro v9_ h9_; obtain ⟨u, rfl, hu⟩ := h9_; go_wp2; exact OpPost.some _ rfl rfl (Ext.refl _) rfl
  -- 13: t3
  refine From.step (OwnF w.heap.size lo) OwnF.mono ?_ ?_
  · intro w' hx; have h0x := hx.cell h0; have h1x := hx.cell h1; have h2x := hx.cell h2; have h3x := hx.cell h3; have h5x := hx.cell h5; (try dsimp only [List.nil_append, List.cons_append]); dsimp only [DepsV, fat, eqF]; rintro v10 k10; go_wp2; exact OpPost.some _ rfl rfl (Ext.refl _) k10
  with_reducible apply From.eq
  · intro w' hx; have h0x := hx.cell h0; have h1x := hx.cell h1; have h2x := hx.cell h2; have h3x := hx.cell h3; have h5x := hx.cell h5; (try dsimp only [List.nil_append, List.cons_append]); dsimp only [DepsV, fat, eqF]; rintro _ rfl; go_wp2; exact OpPost.some _ rfl rfl (Ext.refl _) rfl
  with_reducible apply From.eq
  · intro w' hx; have h0x := hx.cell h0; have h1x := hx.cell h1; have h2x := hx.cell h2; have h3x := hx.cell h3; have h5x := hx.cell h5; (try dsimp only [List.nil_append, List.cons_append]); dsimp only [DepsV, fat, eqF]; rintro _ rfl; go_wp2; exact OpPost.some _ rfl rfl (Ext.refl _) rfl
  with_reducible refine From.fin ?_
  intro w' hx
  (try dsimp only [List.nil_append, List.cons_append]); dsimp only [EndV, eqF]; rintro _ rfl _ rfl _ rfl _ rfl _ rfl v5 k5 _ rfl _ rfl v8 k8 v9_ h9_ v10 k10 _ rfl _ rfl v13 k13 _ rfl _ rfl; simp only [Act.put, List.setIfInBounds_toArray, List.set_cons_zero, List.set_cons_succ]
  obtain ⟨u5, rfl, _⟩ := k8
  obtain ⟨u6, rfl, _⟩ := h9_
  replace h0 := hx.cell h0
  replace h1 := hx.cell h1
  replace h2 := hx.cell h2
  replace h3 := hx.cell h3
  replace h4 := hx.cell h4
  replace h5 := hx.cell h5
  replace X := X.trans hx
  clear hx k5 k10
  obtain ⟨u_a, u_c, hvv, _, _, r13⟩ := Own.form k13
  have R13 := Lib.hid r13
  subst hvv
  clear k13 r13
  go_wp2_with fail
  refine (HRV.out _).mono ?_; rintro e w5 ⟨rfl, x⟩
  replace h0 := x.cell h0
  replace h1 := x.cell h1
  replace h2 := x.cell h2
  replace h3 := x.cell h3
  replace h4 := x.cell h4
  replace h5 := x.cell h5
  replace X := X.trans x
  have R13 := Lib.hid (R13.out.ext x)
  clear x
  go_wp2_with fail
  refine (HRVC.out _).mono ?_; rintro e w6 ⟨rfl, x⟩
  replace h0 := x.cell h0
  replace h1 := x.cell h1
  replace h2 := x.cell h2
  replace h3 := x.cell h3
  replace h4 := x.cell h4
  replace h5 := x.cell h5
  replace X := X.trans x
  have R13 := Lib.hid (R13.out.ext x)
  clear x
  go_wp2_with fail
  refine (RN2.out _ (HA.out.ext X)).mono ?_; rintro e w7 ⟨v7, rfl, o7, x7⟩
  obtain ⟨a7, c7, rfl, _, _, r7⟩ := o7.form
  have R7 := Lib.hid r7
  have R13 := Lib.hid (R13.out.ext x7)
  replace X := X.trans x7
  clear o7 r7 x7
  go_wp2_with fail
  refine (same6 lo _ _ _ _ _ _ rfl R13.out R7.out (by omega)).mono ?_; rintro e w8 ⟨rfl, x8⟩
  replace X := X.trans x8
  clear x8
  go_wp2_with fail
  go_ret
  exact ⟨rfl, X⟩
end Go.Proofs.Ytgnngifnoaagjaa
