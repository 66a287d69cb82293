/- Walk of CodeContains. -/
import Derived.Test.YtgnngifnoaagjaaCL2
import Derived.Test.YtgnngifnoaagjaaCd8
namespace Go.Proofs.Ytgnngifnoaagjaa
open Go.RowKit
/-- The fact of a region: a slice of one slice. -/
def SlF (a : Option Addr) (m c : Nat) : Fact := fun w v => ∃ g, v = .slice (some ⟨g, 0, none⟩) 1 1 ∧ w.cell? ⟨g, 0, none⟩ = some (.slice a m c)
theorem SlF.mono {a : Option Addr} {m c : Nat} : Mono (SlF a m c) := fun _ _ _ hx ⟨g, hv, hc⟩ => ⟨g, hv, hx.cell hc⟩

set_option maxRecDepth 100000 in
set_option maxHeartbeats 4000000 in
theorem CodeContains_w (p : Nat) (n k : Int) (l : List Nat) (a : Option Addr) (c : Nat) (w : World) (ha : Rd w a l) (hn : n ≤ 9223372036854775807) (hn2 : -9223372036854775808 ≤ n) :
    Calls Try.prog 8 #[.agg #[.int .u64 p, .int .i64 n, .int .i64 k], .slice a l.length c] w fun e w' => e = .returned (.bool true) ∧ Ext w w' := by
  have HA := Lib.hid ha
  clear ha
  have h0 : (w.alloc (.cells #[.int .u64 p, .int .i64 n, .int .i64 k] 24)).cell? ⟨w.heap.size, 0, none⟩ = some (.int .u64 p) := by simp
  have h1 : (w.alloc (.cells #[.int .u64 p, .int .i64 n, .int .i64 k] 24)).cell? ⟨w.heap.size, 1, none⟩ = some (.int .i64 n) := by simp
  have h2 : (w.alloc (.cells #[.int .u64 p, .int .i64 n, .int .i64 k] 24)).cell? ⟨w.heap.size, 2, none⟩ = some (.int .i64 k) := by simp
  cases hs : shB p n k [(a, l.length, c)]
  case false =>
    have SC := Lib.hid (short1 p n k a l.length c false hs hn hn2)
    clear hs
    go_enter Try.func8, Try.ntmps8
    go_wp2_with fail
    refine (awake6_c _).mono ?_; rintro e w1 ⟨rfl, x0⟩
    replace h0 := x0.cell h0
    replace h1 := x0.cell h1
    replace h2 := x0.cell h2
    have X := x0.box
    clear x0
    go_wp2_with fail
    refine region_facts [[], [], [(1, 8)], [(0, 7), (2, 9)], [(3, 10)], [(4, 11)], [(5, 12)], [(6, 13), (5, 12)], [(5, 12)], [(8, 15), (5, 12)], [(7, 14), (9, 16), (5, 12)], [(5, 12)], [(5, 12)], [(11, 18), (12, 19), (5, 12)], [(10, 17), (13, 20), (5, 12)], [(5, 12), (14, 21)], [(15, 22)]] [some 7, some 8, some 9, some 10, some 11, some 12, some 13, some 14, some 15, some 16, some 17, some 18, some 19, some 20, some 21, some 22, some 4] (by kernel_rfl) (by kernel_rfl) ?_
    with_reducible apply From.eq
    · intro w' hx; have h0x := hx.cell h0; have h1x := hx.cell h1; have h2x := hx.cell h2; (try dsimp only [List.nil_append, List.cons_append]); dsimp only [DepsV, fat, eqF]; go_wp2; exact OpPost.some _ rfl rfl (Ext.refl _) rfl
    with_reducible apply From.eq
    · intro w' hx; have h0x := hx.cell h0; have h1x := hx.cell h1; have h2x := hx.cell h2; (try dsimp only [List.nil_append, List.cons_append]); dsimp only [DepsV, fat, eqF]; go_wp2; exact OpPost.some _ rfl rfl (Ext.refl _) rfl
    -- 2: t9
    refine From.step (SlF a l.length c) SlF.mono ?_ ?_
    · intro w' hx; have h0x := hx.cell h0; have h1x := hx.cell h1; have h2x := hx.cell h2; (try dsimp only [List.nil_append, List.cons_append]); dsimp only [DepsV, fat, eqF]; rintro _ rfl; go_wp2; exact OpPost.some _ rfl rfl ((Ext.refl _).alloc _) ⟨_, rfl, by simp⟩
    -- 3: t10
    with_reducible apply From.eq
    · intro w' hx; have h0x := hx.cell h0; have h1x := hx.cell h1; have h2x := hx.cell h2; (try dsimp only [List.nil_append, List.cons_append]); dsimp only [DepsV, fat, eqF]; rintro _ rfl; rintro v2 k2; obtain ⟨g, rfl, hg⟩ := k2; go_wp2_with (go_at_call 13; refine (SC.out _ g hg).mono ?_; rintro e w2 ⟨rfl, hb2⟩); exact OpPost.some _ rfl rfl hb2 rfl
    with_reducible apply From.eq
    · intro w' hx; have h0x := hx.cell h0; have h1x := hx.cell h1; have h2x := hx.cell h2; (try dsimp only [List.nil_append, List.cons_append]); dsimp only [DepsV, fat, eqF]; rintro _ rfl; go_wp2; exact OpPost.some _ rfl rfl (Ext.refl _) rfl
    with_reducible apply From.eq
    · intro w' hx; have h0x := hx.cell h0; have h1x := hx.cell h1; have h2x := hx.cell h2; (try dsimp only [List.nil_append, List.cons_append]); dsimp only [DepsV, fat, eqF]; rintro _ rfl; go_wp2; exact OpPost.some _ rfl rfl (Ext.refl _) rfl
    with_reducible apply From.eq
    · intro w' hx; have h0x := hx.cell h0; have h1x := hx.cell h1; have h2x := hx.cell h2; (try dsimp only [List.nil_append, List.cons_append]); dsimp only [DepsV, fat, eqF]; rintro _ rfl; go_wp2; exact OpPost.some _ rfl rfl (Ext.refl _) rfl
    -- 7: t14
    with_reducible apply From.eq
    · intro w' hx; have h0x := hx.cell h0; have h1x := hx.cell h1; have h2x := hx.cell h2; (try dsimp only [List.nil_append, List.cons_append]); dsimp only [DepsV, fat, eqF]; rintro _ rfl _ rfl; go_wp2; exact OpPost.some _ rfl rfl (Ext.refl _) rfl
    with_reducible apply From.eq
    · intro w' hx; have h0x := hx.cell h0; have h1x := hx.cell h1; have h2x := hx.cell h2; (try dsimp only [List.nil_append, List.cons_append]); dsimp only [DepsV, fat, eqF]; rintro _ rfl; go_wp2; exact OpPost.some _ rfl rfl (Ext.refl _) rfl
    -- 9: t16
    with_reducible apply From.eq
    · intro w' hx; have h0x := hx.cell h0; have h1x := hx.cell h1; have h2x := hx.cell h2; (try dsimp only [List.nil_append, List.cons_append]); dsimp only [DepsV, fat, eqF]; rintro _ rfl _ rfl; go_wp2; exact OpPost.some _ rfl rfl (Ext.refl _) rfl
    -- 10: t17
    with_reducible apply From.eq
    · intro w' hx; have h0x := hx.cell h0; have h1x := hx.cell h1; have h2x := hx.cell h2; (try dsimp only [List.nil_append, List.cons_append]); dsimp only [DepsV, fat, eqF]; rintro _ rfl _ rfl _ rfl; go_wp2; exact OpPost.some _ rfl rfl (Ext.refl _) rfl
    with_reducible apply From.eq
    · intro w' hx; have h0x := hx.cell h0; have h1x := hx.cell h1; have h2x := hx.cell h2; (try dsimp only [List.nil_append, List.cons_append]); dsimp only [DepsV, fat, eqF]; rintro _ rfl; go_wp2; exact OpPost.some _ rfl rfl (Ext.refl _) rfl
    with_reducible apply From.eq
    · intro w' hx; have h0x := hx.cell h0; have h1x := hx.cell h1; have h2x := hx.cell h2; (try dsimp only [List.nil_append, List.cons_append]); dsimp only [DepsV, fat, eqF]; rintro _ rfl; go_wp2; exact OpPost.some _ rfl rfl (Ext.refl _) rfl
    -- 13: t20
    with_reducible apply From.eq
    · intro w' hx; have h0x := hx.cell h0; have h1x := hx.cell h1; have h2x := hx.cell h2; (try dsimp only [List.nil_append, List.cons_append]); dsimp only [DepsV, fat, eqF]; rintro _ rfl _ rfl _ rfl; go_wp2; exact OpPost.some _ rfl rfl (Ext.refl _) rfl
    with_reducible apply From.eq
    · intro w' hx; have h0x := hx.cell h0; have h1x := hx.cell h1; have h2x := hx.cell h2; (try dsimp only [List.nil_append, List.cons_append]); dsimp only [DepsV, fat, eqF]; rintro _ rfl _ rfl _ rfl; go_wp2; exact OpPost.some _ rfl rfl (Ext.refl _) rfl
    with_reducible apply From.eq
    · intro w' hx; have h0x := hx.cell h0; have h1x := hx.cell h1; have h2x := hx.cell h2; (try dsimp only [List.nil_append, List.cons_append]); dsimp only [DepsV, fat, eqF]; rintro _ rfl _ rfl; go_wp2; exact OpPost.some _ rfl rfl (Ext.refl _) rfl
    with_reducible apply From.eq
    · intro w' hx; have h0x := hx.cell h0; have h1x := hx.cell h1; have h2x := hx.cell h2; (try dsimp only [List.nil_append, List.cons_append]); dsimp only [DepsV, fat, eqF]; rintro _ rfl; go_wp2; exact OpPost.some _ rfl rfl (Ext.refl _) rfl
    with_reducible refine From.fin ?_
    intro w' hx
    (try dsimp only [List.nil_append, List.cons_append]); dsimp only [EndV, eqF]; rintro _ rfl _ rfl v2 k2 _ rfl _ rfl _ rfl _ rfl _ rfl _ rfl _ rfl _ rfl _ rfl _ rfl _ rfl _ rfl _ rfl _ rfl; simp only [Act.put, List.setIfInBounds_toArray, List.set_cons_zero, List.set_cons_succ]
    go_wp2_with fail
    go_ret
    exact ⟨rfl, X.trans hx⟩
  have SC := Lib.hid (short1 p n k a l.length c true hs hn hn2)
  have hl := sh1_len hs
  have OC := Lib.hid (fun w' (h : Rd w' a l) => own_c l a c w' h (by omega))
  have CC := fun w' a' c' (h : Rd w' a' l) => Contains_c p n k l a' c' w' h hn hn2
  have RC := fun w' (h : Rd w' a l) => RContains_c p n k l a c w' h hn hn2
  rw [con_same] at CC
  obtain ⟨B, hB⟩ : ∃ B, B = rCon p n k l := ⟨_, rfl⟩
  rw [← hB] at CC RC
  have HCC := Lib.hid CC
  have HRC := Lib.hid RC
  have tB : (B == B) = true := by simp
  clear CC RC hB hs
  go_enter Try.func8, Try.ntmps8
  go_wp2_with fail
  refine (awake6_c _).mono ?_; rintro e w1 ⟨rfl, x0⟩
  replace h0 := x0.cell h0
  replace h1 := x0.cell h1
  replace h2 := x0.cell h2
  have X := x0.box
  clear x0
  go_wp2_with fail
  refine region_facts [[], [], [(1, 8)], [(0, 7), (2, 9)], [(3, 10)], [(4, 11)], [(5, 12)], [(6, 13), (5, 12)], [(5, 12)], [(8, 15), (5, 12)], [(7, 14), (9, 16), (5, 12)], [(5, 12)], [(5, 12)], [(11, 18), (12, 19), (5, 12)], [(10, 17), (13, 20), (5, 12)], [(5, 12), (14, 21)], [(15, 22)]] [some 7, some 8, some 9, some 10, some 11, some 12, some 13, some 14, some 15, some 16, some 17, some 18, some 19, some 20, some 21, some 22, some 4] (by kernel_rfl) (by kernel_rfl) ?_
  with_reducible apply From.eq
  · intro w' hx; have h0x := hx.cell h0; have h1x := hx.cell h1; have h2x := hx.cell h2; (try dsimp only [List.nil_append, List.cons_append]); dsimp only [DepsV, fat, eqF]; go_wp2; exact OpPost.some _ rfl rfl (Ext.refl _) rfl
  with_reducible apply From.eq
  · intro w' hx; have h0x := hx.cell h0; have h1x := hx.cell h1; have h2x := hx.cell h2; (try dsimp only [List.nil_append, List.cons_append]); dsimp only [DepsV, fat, eqF]; go_wp2; exact OpPost.some _ rfl rfl (Ext.refl _) rfl
  -- 2: t9
  refine From.step (SlF a l.length c) SlF.mono ?_ ?_
  · intro w' hx; have h0x := hx.cell h0; have h1x := hx.cell h1; have h2x := hx.cell h2; (try dsimp only [List.nil_append, List.cons_append]); dsimp only [DepsV, fat, eqF]; rintro _ rfl; go_wp2; exact OpPost.some _ rfl rfl ((Ext.refl _).alloc _) ⟨_, rfl, by simp⟩
  -- 3: t10
  with_reducible apply From.eq
  · intro w' hx; have h0x := hx.cell h0; have h1x := hx.cell h1; have h2x := hx.cell h2; (try dsimp only [List.nil_append, List.cons_append]); dsimp only [DepsV, fat, eqF]; rintro _ rfl; rintro v2 k2; obtain ⟨g, rfl, hg⟩ := k2; go_wp2_with (go_at_call 13; refine (SC.out _ g hg).mono ?_; rintro e w2 ⟨rfl, hb2⟩); exact OpPost.some _ rfl rfl hb2 rfl
  with_reducible apply From.eq
  · intro w' hx; have h0x := hx.cell h0; have h1x := hx.cell h1; have h2x := hx.cell h2; (try dsimp only [List.nil_append, List.cons_append]); dsimp only [DepsV, fat, eqF]; rintro _ rfl; go_wp2; exact OpPost.some _ rfl rfl (Ext.refl _) rfl
  with_reducible apply From.eq
  · intro w' hx; have h0x := hx.cell h0; have h1x := hx.cell h1; have h2x := hx.cell h2; (try dsimp only [List.nil_append, List.cons_append]); dsimp only [DepsV, fat, eqF]; rintro _ rfl; go_wp2; exact OpPost.some _ rfl rfl (Ext.refl _) rfl
  with_reducible apply From.eq
  · intro w' hx; have h0x := hx.cell h0; have h1x := hx.cell h1; have h2x := hx.cell h2; (try dsimp only [List.nil_append, List.cons_append]); dsimp only [DepsV, fat, eqF]; rintro _ rfl; go_wp2; exact OpPost.some _ rfl rfl (Ext.refl _) rfl
  with_reducible apply From.eq
  · intro w' hx; have h0x := hx.cell h0; have h1x := hx.cell h1; have h2x := hx.cell h2; (try dsimp only [List.nil_append, List.cons_append]); dsimp only [DepsV, fat, eqF]; rintro _ rfl _ rfl; go_wp2_with (go_at_call 15; refine (of_c p n k _).mono ?_; rintro e w2 ⟨rfl, hb2⟩); exact OpPost.some _ rfl rfl hb2 rfl
  with_reducible apply From.eq
  · intro w' hx; have h0x := hx.cell h0; have h1x := hx.cell h1; have h2x := hx.cell h2; (try dsimp only [List.nil_append, List.cons_append]); dsimp only [DepsV, fat, eqF]; rintro _ rfl; go_wp2; exact OpPost.some _ rfl rfl (Ext.refl _) rfl
  refine From.step (OwnF w.heap.size l) (OwnF.mono) ?_ ?_
  · intro w' hx; have h0x := hx.cell h0; have h1x := hx.cell h1; have h2x := hx.cell h2; (try dsimp only [List.nil_append, List.cons_append]); dsimp only [DepsV, fat, eqF]; rintro _ rfl _ rfl; skip;
    go_wp2_with (go_at_call 16; refine (OC.out _ (HA.out.ext (X.trans hx))).mono ?_; rintro e w2 ⟨v, rfl, ho, hn'⟩); exact OpPost.some _ rfl rfl hn' (ho.base (X.trans hx).size)
  -- 10: t17
  with_reducible apply From.eq
  · intro w' hx; have h0x := hx.cell h0; have h1x := hx.cell h1; have h2x := hx.cell h2; (try dsimp only [List.nil_append, List.cons_append]); dsimp only [DepsV, fat, eqF]; rintro _ rfl; rintro v9 k9; rintro _ rfl; obtain ⟨a9, c9, rfl, _, _, r9⟩ := Own.form k9; go_wp2_with (go_at_call 31; refine (HCC.out _ _ _ r9).mono ?_; rintro e w2 ⟨rfl, hb2⟩); exact OpPost.some _ rfl rfl hb2 rfl
  with_reducible apply From.eq
  · intro w' hx; have h0x := hx.cell h0; have h1x := hx.cell h1; have h2x := hx.cell h2; (try dsimp only [List.nil_append, List.cons_append]); dsimp only [DepsV, fat, eqF]; rintro _ rfl; go_wp2; exact OpPost.some _ rfl rfl (Ext.refl _) rfl
  with_reducible apply From.eq
  · intro w' hx; have h0x := hx.cell h0; have h1x := hx.cell h1; have h2x := hx.cell h2; (try dsimp only [List.nil_append, List.cons_append]); dsimp only [DepsV, fat, eqF]; rintro _ rfl; go_wp2; exact OpPost.some _ rfl rfl (Ext.refl _) rfl
  with_reducible apply From.eq
  · intro w' hx; have h0x := hx.cell h0; have h1x := hx.cell h1; have h2x := hx.cell h2; (try dsimp only [List.nil_append, List.cons_append]); dsimp only [DepsV, fat, eqF]; rintro _ rfl _ rfl _ rfl; go_wp2_with (go_at_call 30; refine (HRC.out _ (HA.out.ext (X.trans hx))).mono ?_; rintro e w2 ⟨rfl, hb2⟩); exact OpPost.some _ rfl rfl hb2 rfl
  with_reducible apply From.eq
  · intro w' hx; have h0x := hx.cell h0; have h1x := hx.cell h1; have h2x := hx.cell h2; (try dsimp only [List.nil_append, List.cons_append]); dsimp only [DepsV, fat, eqF]; rintro _ rfl _ rfl _ rfl; go_wp2; exact OpPost.some _ rfl rfl (Ext.refl _) rfl
  with_reducible apply From.eq
  · intro w' hx; have h0x := hx.cell h0; have h1x := hx.cell h1; have h2x := hx.cell h2; (try dsimp only [List.nil_append, List.cons_append]); dsimp only [DepsV, fat, eqF]; rintro _ rfl _ rfl; go_wp2; exact OpPost.some _ rfl rfl (Ext.refl _) rfl
  with_reducible apply From.eq
  · intro w' hx; have h0x := hx.cell h0; have h1x := hx.cell h1; have h2x := hx.cell h2; (try dsimp only [List.nil_append, List.cons_append]); dsimp only [DepsV, fat, eqF]; rintro _ rfl; go_wp2; exact OpPost.some _ rfl rfl (Ext.refl _) rfl
  with_reducible refine From.fin ?_
  intro w' hx
  (try dsimp only [List.nil_append, List.cons_append]); dsimp only [EndV, eqF]; rintro _ rfl _ rfl v2 k2 _ rfl _ rfl _ rfl _ rfl _ rfl _ rfl v9 k9 _ rfl _ rfl _ rfl _ rfl _ rfl _ rfl _ rfl; simp only [Act.put, List.setIfInBounds_toArray, List.set_cons_zero, List.set_cons_succ]
  go_wp2_with fail
  go_ret
  exact ⟨rfl, X.trans hx⟩
end Go.Proofs.Ytgnngifnoaagjaa
