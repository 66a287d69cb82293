/- Walk of CoinsMore. -/
import Derived.Test.YtndiaamoapidoaaCoP
namespace Go.Proofs.Ytndiaamoapidoaa
open Go.RowKit

def OneM (z : Nat) : Fact := fun w v => ∃ g, v = .slice (some ⟨g, 0, none⟩) 1 1 ∧ w.cell? ⟨g, 0, none⟩ = some (.int .u64 (z : Int))
theorem OneM.mono {z : Nat} : Mono (OneM z) := fun _ _ _ hx ⟨g, hv, hc⟩ => ⟨g, hv, hx.cell hc⟩
def TupF (k : Nat) (n : Int) : Fact := fun _ v => ∃ a c, v = .tuple #[.slice a k c, .int .i64 n]
theorem TupF.mono {k : Nat} {n : Int} : Mono (TupF k n) := fun _ _ _ _ h => h
def SlcF (k : Nat) : Fact := fun _ v => ∃ a c, v = .slice a k c
theorem SlcF.mono {k : Nat} : Mono (SlcF k) := fun _ _ _ _ h => h
theorem more_spec (vs : List Nat) (t m x : Nat) (h0 : exE vs = 0) (hl : vs.length < 24) (hx : x ≤ 4294967295) :
    (selE vs t 24 = 0 ∧ selE (vs ++ [x]) t 24 = 0 ∧ (selL (vs ++ [x]) t 24).length ≤ (selL vs t 24).length ∧ ((selE vs (t + m) 24 = 0 ∧ (selL vs t 24).length ≤ (selL vs (t + m) 24).length) ∨ selE vs (t + m) 24 = 15)) ∨
    (selE vs t 24 = 15 ∧ selE vs (t + m) 24 = 15) := by
  have h0x := exE_more (x := x) h0 hl hx
  rcases sel_spec vs t 24 h0 (by decide) with ⟨e1, _, _, e4⟩ | ⟨k, hk, e1, hB⟩
  · right
    refine ⟨e1, ?_⟩
    rcases sel_spec vs (t + m) 24 h0 (by decide) with ⟨f1, _, _, _⟩ | ⟨k2, hk2, f1, hB2⟩
    · exact f1
    · have := e4 _ hB2.sel (by rw [hB2.len]; exact hk2)
      have := hB2.enough
      omega
  · left
    refine ⟨e1, ?_⟩
    rcases sel_spec (vs ++ [x]) t 24 h0x (by decide) with ⟨g1, _, _, g4⟩ | ⟨k3, hk3, g1, hB3⟩
    · have := g4 _ hB.sel.more.1 (by rw [hB.len]; exact hk)
      rw [hB.sel.more.2] at this
      have := hB.enough
      omega
    · refine ⟨g1, by rw [hB.len, hB3.len]; exact hB.more hB3, ?_⟩
      rcases sel_spec vs (t + m) 24 h0 (by decide) with ⟨f1, _, _, _⟩ | ⟨k2, hk2, f1, hB2⟩
      · exact .inr f1
      · exact .inl ⟨f1, by rw [hB.len, hB2.len]; exact hB.mono hB2 (by omega)⟩

set_option maxRecDepth 100000 in
set_option maxHeartbeats 8000000 in
theorem CoinsMore_w (vs : List Nat) (t m0 m1 : Nat) (a : Option Addr) (c : Nat) (w : World) (ha : Rd w a vs) (hl : vs.length ≤ 9223372036854775807) (ht : t < 18446744073709551616) (hm0 : m0 < 18446744073709551616) (hm1 : m1 < 18446744073709551616) :
    Calls Try.prog 6 #[.slice a vs.length c, .int .u64 (t : Int), .agg #[.int .u64 (m0 : Int), .int .u64 (m1 : Int)]] w fun e w' => e = .returned (.bool true) ∧ Ext w w' := by
  have HA := Lib.hid ha
  have EC := Lib.hid (fun w' (h : Rd w' a vs) => RError_c vs 24 a c w' h hl)
  have h0 : (w.alloc (.cells #[.int .u64 (m0 : Int), .int .u64 (m1 : Int)] 39)).cell? ⟨w.heap.size, 0, none⟩ = some (.int .u64 (m0 : Int)) := by simp
  have h1 : (w.alloc (.cells #[.int .u64 (m0 : Int), .int .u64 (m1 : Int)] 39)).cell? ⟨w.heap.size, 1, none⟩ = some (.int .u64 (m1 : Int)) := by simp
  clear ha
  by_cases hr : rE vs 24 = 0
  case neg =>
    obtain ⟨ee, he⟩ : ∃ ee, ee = rE vs 24 := ⟨_, rfl⟩
    rw [← he] at hr EC
    have t1 : (ee == 0) = false := beq_eq_false_iff_ne.2 hr
    clear he
    go_enter Try.func6, Try.ntmps6
    go_wp2_with fail
    refine (awake50_c _).mono ?_; rintro e w1 ⟨rfl, x1⟩
    replace h0 := x1.cell h0
    replace h1 := x1.cell h1
    have X1 := Lib.hid x1.box
    clear x1
    go_wp2_with fail
    refine (EC.out _ (HA.out.ext X1.out)).mono ?_; rintro e w2 ⟨rfl, x2⟩
    replace h0 := x2.cell h0
    replace h1 := x2.cell h1
    have X2 := Lib.hid (X1.out.trans x2)
    clear x2
    go_wp2_with fail
    go_ret
    exact ⟨rfl, X2.out⟩
  rw [hr] at EC
  obtain ⟨hex, hm⟩ := rE_ok hr
  obtain ⟨h24, hsm⟩ := exE_zero hex
  by_cases hl24 : vs.length = 24
  · obtain ⟨n, hn⟩ : ∃ n, n = vs.length := ⟨_, rfl⟩
    have t2 : ((n : Int) == 24) = true := by simp; omega
    rw [← hn] at EC
    clear hr hex hsm h24 hl24
    rw [← hn]
    clear hn hl
    go_enter Try.func6, Try.ntmps6
    go_wp2_with fail
    refine (awake50_c _).mono ?_; rintro e w1 ⟨rfl, x1⟩
    replace h0 := x1.cell h0
    replace h1 := x1.cell h1
    have X1 := Lib.hid x1.box
    clear x1
    go_wp2_with fail
    refine (EC.out _ (HA.out.ext X1.out)).mono ?_; rintro e w2 ⟨rfl, x2⟩
    replace h0 := x2.cell h0
    replace h1 := x2.cell h1
    have X2 := Lib.hid (X1.out.trans x2)
    clear x2
    go_wp2_with fail
    go_ret
    exact ⟨rfl, X2.out⟩
  have t2 : ((vs.length : Int) == 24) = false := beq_eq_false_iff_ne.2 (by omega)
  by_cases hm40 : m0 ≤ 1099511627776
  case neg =>
    clear hr hex hsm
    go_enter Try.func6, Try.ntmps6
    go_wp2_with fail
    refine (awake50_c _).mono ?_; rintro e w1 ⟨rfl, x1⟩
    replace h0 := x1.cell h0
    replace h1 := x1.cell h1
    have X1 := Lib.hid x1.box
    clear x1
    go_wp2_with fail
    refine (EC.out _ (HA.out.ext X1.out)).mono ?_; rintro e w2 ⟨rfl, x2⟩
    replace h0 := x2.cell h0
    replace h1 := x2.cell h1
    have X2 := Lib.hid (X1.out.trans x2)
    clear x2
    go_wp2_with fail
    go_ret
    exact ⟨rfl, X2.out⟩
  by_cases ht40 : t ≤ 1099511627776
  case neg =>
    clear hr hex hsm
    go_enter Try.func6, Try.ntmps6
    go_wp2_with fail
    refine (awake50_c _).mono ?_; rintro e w1 ⟨rfl, x1⟩
    replace h0 := x1.cell h0
    replace h1 := x1.cell h1
    have X1 := Lib.hid x1.box
    clear x1
    go_wp2_with fail
    refine (EC.out _ (HA.out.ext X1.out)).mono ?_; rintro e w2 ⟨rfl, x2⟩
    replace h0 := x2.cell h0
    replace h1 := x2.cell h1
    have X2 := Lib.hid (X1.out.trans x2)
    clear x2
    go_wp2_with fail
    go_ret
    exact ⟨rfl, X2.out⟩
  obtain ⟨q, hq⟩ : ∃ q, q = m1 % 4294967296 := ⟨_, rfl⟩
  have hq4 : q ≤ 4294967295 := by omega
  have SP := more_spec vs t m0 q hex (by omega) hq4
  have OC := Lib.hid (fun w' (h : Rd w' a vs) => own50_c vs a c w' h (by omega))
  have SL1 := Lib.hid (fun w' (a' : Option Addr) (c' : Nat) (h : Rd w' a' vs) => Select_c vs t 24 a' c' w' h hl)
  have SL2 := Lib.hid (fun w' (a' : Option Addr) (c' : Nat) (h : Rd w' a' vs) => Select_c vs (t + m0) 24 a' c' w' h hl)
  have SL3 := Lib.hid (fun w' (a' : Option Addr) (c' : Nat) (h : Rd w' a' (vs ++ [q])) => Select_c (vs ++ [q]) t 24 a' c' w' h (by simp; omega))
  rw [show (((t + m0 : Nat) : Int)) = (t : Int) + (m0 : Int) from by omega] at SL2
  have HL3 : Hid ((vs ++ [q]).length = vs.length + 1) := Lib.hid (by simp)
  rw [HL3.out] at SL3
  have HQ : Hid (((m1 : Int) % 4294967296) = (q : Int)) := Lib.hid (by omega)
  obtain ⟨l1, hl1⟩ : ∃ l, l = selL vs t 24 := ⟨_, rfl⟩
  obtain ⟨l2, hl2⟩ : ∃ l, l = selL vs (t + m0) 24 := ⟨_, rfl⟩
  obtain ⟨l3, hl3⟩ : ∃ l, l = selL (vs ++ [q]) t 24 := ⟨_, rfl⟩
  rw [← hl1] at SL1 SP
  rw [← hl2] at SL2 SP
  rw [← hl3] at SL3 SP
  obtain ⟨k1, hk1⟩ : ∃ k, k = l1.length := ⟨_, rfl⟩
  obtain ⟨k2, hk2⟩ : ∃ k, k = l2.length := ⟨_, rfl⟩
  obtain ⟨k3, hk3⟩ : ∃ k, k = l3.length := ⟨_, rfl⟩
  rw [← hk1, ← hk2, ← hk3] at SP
  have HK1 := Lib.hid hk1.symm
  have HK2 := Lib.hid hk2.symm
  have HK3 := Lib.hid hk3.symm
  clear hr hex hsm hq hl1 hl2 hl3 hk1 hk2 hk3
  rcases SP with ⟨s1, s3, s5, ⟨s2, s4⟩ | s2⟩ | ⟨s1, s2⟩
  · rw [s1] at SL1
    rw [s2] at SL2
    rw [s3] at SL3
    clear s1 s2 s3
    go_enter Try.func6, Try.ntmps6
    go_wp2_with fail
    refine (awake50_c _).mono ?_; rintro e w1 ⟨rfl, x1⟩
    replace h0 := x1.cell h0
    replace h1 := x1.cell h1
    have X1 := Lib.hid x1.box
    clear x1
    go_wp2_with fail
    refine (EC.out _ (HA.out.ext X1.out)).mono ?_; rintro e w2 ⟨rfl, x2⟩
    replace h0 := x2.cell h0
    replace h1 := x2.cell h1
    have X2 := Lib.hid (X1.out.trans x2)
    clear x2
    go_wp2_with fail
    
    refine (OC.out _ (HA.out.ext X2.out)).mono ?_; rintro e w3 ⟨v3, rfl, o3, x3⟩
    obtain ⟨a3, c3, rfl, _, _, r3⟩ := o3.form
    have R3 := Lib.hid r3
    replace h0 := x3.cell h0
    replace h1 := x3.cell h1
    have X3 := Lib.hid (X2.out.trans x3)
    clear o3 r3 x3
    go_wp2_with fail
    refine (SL1.out _ _ _ R3.out).mono ?_; rintro e w4 ⟨v4, rfl, o4, x4⟩
    replace h0 := x4.cell h0
    replace h1 := x4.cell h1
    have X4 := Lib.hid (X3.out.trans x4)
    obtain ⟨a4, c4, rfl, _, _⟩ := o4.formN k1 HK1.out
    clear o4 x4
    go_wp2_with fail
    refine region_facts [[], [(0, 40)], [], [], [(3, 43)], [(2, 42), (4, 44)], [(1, 41), (5, 45)], [(6, 46)], [(7, 39)], [(7, 39)], [(8, 47)], [(9, 48)]] [some 40, some 41, some 42, some 43, some 44, some 45, some 46, some 39, some 47, some 48, some 9, some 10] (by kernel_rfl) (by kernel_rfl) ?_
    with_reducible apply From.eq
    · intro w' hx; have h0x := hx.cell h0; (try dsimp only [List.nil_append, List.cons_append]); dsimp only [DepsV, fat, eqF]; go_wp2; exact OpPost.some _ rfl rfl (Ext.refl _) rfl
    refine From.step (OwnF w4.heap.size vs) (OwnF.mono) ?_ ?_
    · intro w' hx; have h0x := hx.cell h0; (try dsimp only [List.nil_append, List.cons_append]); dsimp only [DepsV, fat, eqF]; rintro _ rfl; skip;
      go_wp2_with (go_at_call 12; refine (OC.out _ (HA.out.ext (X4.out.trans hx))).mono ?_; rintro e w2 ⟨v, rfl, ho, hn⟩); exact OpPost.some _ rfl rfl hn (ho.base hx.size)
    with_reducible apply From.eq
    · intro w' hx; have h0x := hx.cell h0; (try dsimp only [List.nil_append, List.cons_append]); dsimp only [DepsV, fat, eqF]; go_wp2; exact OpPost.some _ rfl rfl (Ext.refl _) rfl
    with_reducible apply From.eq
    · intro w' hx; have h0x := hx.cell h0; (try dsimp only [List.nil_append, List.cons_append]); dsimp only [DepsV, fat, eqF]; go_wp2; exact OpPost.some _ rfl rfl (Ext.refl _) rfl
    with_reducible apply From.eq
    · intro w' hx; have h0x := hx.cell h0; (try dsimp only [List.nil_append, List.cons_append]); dsimp only [DepsV, fat, eqF]; rintro _ rfl; go_wp2; exact OpPost.some _ rfl rfl (Ext.refl _) rfl
    with_reducible apply From.eq
    · intro w' hx; have h0x := hx.cell h0; (try dsimp only [List.nil_append, List.cons_append]); dsimp only [DepsV, fat, eqF]; rintro _ rfl _ rfl; go_wp2; exact OpPost.some _ rfl rfl (Ext.refl _) rfl
    refine From.step (TupF k2 0) (TupF.mono) ?_ ?_
    · intro w' hx; have h0x := hx.cell h0; (try dsimp only [List.nil_append, List.cons_append]); dsimp only [DepsV, fat, eqF]; rintro v1 g1; rintro _ rfl; obtain ⟨a5, c5, rfl, _, _, r5⟩ := g1.form;
      go_wp2_with (go_at_call 11; refine (SL2.out _ _ _ r5).mono ?_; rintro e w2 ⟨v, rfl, ho, hn⟩); exact OpPost.some _ rfl rfl hn (by obtain ⟨a6, c6, e6, _, _⟩ := ho.formN k2 HK2.out; exact ⟨a6, c6, by rw [e6]⟩)
    refine From.step (TupF k2 0) (TupF.mono) ?_ ?_
    · intro w' hx; have h0x := hx.cell h0; (try dsimp only [List.nil_append, List.cons_append]); dsimp only [DepsV, fat, eqF]; rintro v6 g6; go_wp2; exact OpPost.some _ rfl rfl (Ext.refl _) g6
    -- 8: t47
    refine From.step (SlcF k2) SlcF.mono ?_ ?_
    · intro w' hx; have h0x := hx.cell h0; (try dsimp only [List.nil_append, List.cons_append]); dsimp only [DepsV, fat, eqF]; rintro v7_ h7_; obtain ⟨a6, c6, rfl⟩ := h7_; go_wp2; exact OpPost.some _ rfl rfl (Ext.refl _) ⟨_, _, rfl⟩
    -- 9: t48
    with_reducible apply From.eq
    · intro w' hx; have h0x := hx.cell h0; (try dsimp only [List.nil_append, List.cons_append]); dsimp only [DepsV, fat, eqF]; rintro v7_ h7_; obtain ⟨a6, c6, rfl⟩ := h7_; go_wp2; exact OpPost.some _ rfl rfl (Ext.refl _) rfl
    -- 10: t9
    refine From.step (SlcF k2) SlcF.mono ?_ ?_
    · intro w' hx; have h0x := hx.cell h0; (try dsimp only [List.nil_append, List.cons_append]); dsimp only [DepsV, fat, eqF]; rintro v8 g8; go_wp2; exact OpPost.some _ rfl rfl (Ext.refl _) g8
    with_reducible apply From.eq
    · intro w' hx; have h0x := hx.cell h0; (try dsimp only [List.nil_append, List.cons_append]); dsimp only [DepsV, fat, eqF]; rintro _ rfl; go_wp2; exact OpPost.some _ rfl rfl (Ext.refl _) rfl
    with_reducible refine From.fin ?_
    intro w' hx
    (try dsimp only [List.nil_append, List.cons_append]); dsimp only [EndV, eqF]; rintro _ rfl v1 g1 _ rfl _ rfl _ rfl _ rfl v6 g6 v7_ h7_ v8 g8 _ rfl v10 g10 _ rfl; simp only [Act.put, List.setIfInBounds_toArray, List.set_cons_zero, List.set_cons_succ]
    obtain ⟨a6, c6, rfl⟩ := g10
    have X6 := Lib.hid (X4.out.trans hx)
    replace h1 := hx.cell h1
    obtain ⟨WW, hWW⟩ : ∃ u : World, u = w' := ⟨_, rfl⟩
    subst hWW
    clear g1 g6 h7_ g8 hx h0
    go_wp2_with fail
    
    refine region_factsH 6 [[], [(0, 63)], [], [(2, 65)], [(3, 66)], [(4, 67)], [(1, 64), (5, 68)], [], [(6, 69), (7, 70)], [(8, 71)], [(9, 62)], [(9, 62)], [(10, 72)], [(11, 73)]] [some 63, some 64, some 65, some 66, some 67, some 68, some 69, some 70, some 71, some 62, some 72, some 73, some 11, some 12] (by kernel_rfl) (by kernel_rfl) (by decide) ?_
    with_reducible apply FromH.preEq
    · kernel_rfl
    · intro w' hx; have h1x := hx.cell h1; (try dsimp only [List.nil_append, List.cons_append]); dsimp only [DepsV, fat, eqF, valF]; go_wp2; exact PostI.some _ rfl rfl ⟨Ext.refl _, rfl⟩
    refine FromH.pre (OwnF WW.heap.size vs) (fun _ => True) (by kernel_rfl) OwnF.mono (fun _ _ _ => trivial) ?_ ?_
    · intro w' hx; have h1x := hx.cell h1; (try dsimp only [List.nil_append, List.cons_append]); dsimp only [DepsV, fat, eqF, valF]; rintro _ rfl; go_wp2_with (go_at_call 12; refine (OC.out _ (HA.out.ext (X6.out.trans hx))).mono ?_; rintro e w5 ⟨v, rfl, ho, hn'⟩); exact PostI.some _ rfl rfl ⟨hn', ho.base hx.size⟩
    with_reducible apply FromH.preEq
    · kernel_rfl
    · intro w' hx; have h1x := hx.cell h1; (try dsimp only [List.nil_append, List.cons_append]); dsimp only [DepsV, fat, eqF, valF]; go_wp2; exact PostI.some _ rfl rfl ⟨Ext.refl _, rfl⟩
    with_reducible apply FromH.preEq
    · kernel_rfl
    · intro w' hx; have h1x := hx.cell h1; (try dsimp only [List.nil_append, List.cons_append]); dsimp only [DepsV, fat, eqF, valF]; rintro _ rfl; go_wp2; exact PostI.some _ rfl rfl ⟨Ext.refl _, rfl⟩
    with_reducible apply FromH.preEq
    · kernel_rfl
    · intro w' hx; have h1x := hx.cell h1; (try dsimp only [List.nil_append, List.cons_append]); dsimp only [DepsV, fat, eqF, valF]; rintro _ rfl; go_wp2; exact PostI.some _ rfl rfl ⟨Ext.refl _, rfl⟩
    refine FromH.pre (OneM q) (fun _ => True) (by kernel_rfl) OneM.mono (fun _ _ _ => trivial) ?_ ?_
    · intro w' hx; have h1x := hx.cell h1; (try dsimp only [List.nil_append, List.cons_append]); dsimp only [DepsV, fat, eqF, valF]; rintro _ rfl; go_wp2; exact PostI.some _ rfl rfl ⟨(Ext.refl _).alloc _, _, rfl, by rw [← HQ.out]; simp⟩
    refine FromH.wr (OwnF WW.heap.size (vs ++ [q])) rfl OwnF.mono ?_ ?_
    · intro w' hx; have h1x := hx.cell h1; (try dsimp only [List.nil_append, List.cons_append]); dsimp only [DepsV, fat, eqF, valF]; rintro v1 g1; rintro v5 g5; obtain ⟨b5, rfl, hb5⟩ := g5; go_wp2_with (at_builtin; refine wpList_app1 rfl (.tmp 64) (.tmp 68) rfl WW.heap.size _ _ rfl g1 b5 q 1 rfl hb5 (by simp; omega) hx.size ?_; intro v' w8 hown8 hx8 _); exact PostI.some _ rfl rfl ⟨hx8 _ hx (Nat.le_refl _), hown8⟩
    with_reducible apply FromH.beq
    · decide
    · kernel_rfl
    · intro w' hx; have h1x := hx.cell h1; (try dsimp only [List.nil_append, List.cons_append]); dsimp only [DepsV, fat, eqF, valF]; go_wp2; exact PostI.some _ rfl rfl ⟨Ext.refl _, rfl⟩
    refine FromH.be (fun v => ∃ a c, v = .tuple #[.slice a k3 c, .int .i64 0]) (by decide) (by kernel_rfl) ?_ ?_
    · intro w' hx; have h1x := hx.cell h1; (try dsimp only [List.nil_append, List.cons_append]); dsimp only [DepsV, fat, eqF, valF]; rintro v6 g6; rintro _ rfl; obtain ⟨a7, c7, rfl, _, r7⟩ := g6.formN _ HL3.out; go_wp2_with (go_at_call 11; refine (SL3.out _ _ _ r7).mono ?_; rintro e w8 ⟨v8, rfl, o8, x8⟩); obtain ⟨a8, c8, e8, _, _⟩ := o8.formN k3 HK3.out; exact PostI.some _ rfl rfl ⟨x8, a8, c8, by rw [e8]⟩
    refine FromH.be (fun v => ∃ a c, v = .tuple #[.slice a k3 c, .int .i64 0]) (by decide) (by kernel_rfl) ?_ ?_
    · intro w' hx; have h1x := hx.cell h1; (try dsimp only [List.nil_append, List.cons_append]); dsimp only [DepsV, fat, eqF, valF]; rintro v8 g8; go_wp2; exact PostI.some _ rfl rfl ⟨Ext.refl _, g8⟩
    refine FromH.be (fun v => ∃ a c, v = .slice a k3 c) (by decide) (by kernel_rfl) ?_ ?_
    · intro w' hx; have h1x := hx.cell h1; (try dsimp only [List.nil_append, List.cons_append]); dsimp only [DepsV, fat, eqF, valF]; rintro v9 g9; obtain ⟨a8, c8, rfl⟩ := g9; go_wp2; exact PostI.some _ rfl rfl ⟨Ext.refl _, _, _, rfl⟩
    with_reducible apply FromH.beq
    · decide
    · kernel_rfl
    · intro w' hx; have h1x := hx.cell h1; (try dsimp only [List.nil_append, List.cons_append]); dsimp only [DepsV, fat, eqF, valF]; rintro v9 g9; obtain ⟨a8, c8, rfl⟩ := g9; go_wp2; exact PostI.some _ rfl rfl ⟨Ext.refl _, rfl⟩
    refine FromH.be (fun v => ∃ a c, v = .slice a k3 c) (by decide) (by kernel_rfl) ?_ ?_
    · intro w' hx; have h1x := hx.cell h1; (try dsimp only [List.nil_append, List.cons_append]); dsimp only [DepsV, fat, eqF, valF]; rintro v10 g10; go_wp2; exact PostI.some _ rfl rfl ⟨Ext.refl _, g10⟩
    with_reducible apply FromH.beq
    · decide
    · kernel_rfl
    · intro w' hx; have h1x := hx.cell h1; (try dsimp only [List.nil_append, List.cons_append]); dsimp only [DepsV, fat, eqF, valF]; rintro _ rfl; go_wp2; exact PostI.some _ rfl rfl ⟨Ext.refl _, rfl⟩
    with_reducible refine FromH.fin ?_
    intro w' hx
    (try dsimp only [List.nil_append, List.cons_append]); dsimp only [EndV, eqF, valF]; rintro _ rfl v1 _ _ rfl _ rfl _ rfl v5 _ v6 g6 _ rfl v8 g8 v9 g9 v10 g10 _ rfl v12 g12 _ rfl; simp only [Act.put, List.setIfInBounds_toArray, List.set_cons_zero, List.set_cons_succ]
    obtain ⟨a8, c8, rfl⟩ := g12
    have X8 := Lib.hid (X6.out.trans hx)
    clear g6 g8 g9 g10 hx h1
    go_wp2_with fail
    go_ret
    exact ⟨rfl, X8.out⟩
  · rw [s1] at SL1
    rw [s2] at SL2
    rw [s3] at SL3
    clear s1 s2 s3
    go_enter Try.func6, Try.ntmps6
    go_wp2_with fail
    refine (awake50_c _).mono ?_; rintro e w1 ⟨rfl, x1⟩
    replace h0 := x1.cell h0
    replace h1 := x1.cell h1
    have X1 := Lib.hid x1.box
    clear x1
    go_wp2_with fail
    refine (EC.out _ (HA.out.ext X1.out)).mono ?_; rintro e w2 ⟨rfl, x2⟩
    replace h0 := x2.cell h0
    replace h1 := x2.cell h1
    have X2 := Lib.hid (X1.out.trans x2)
    clear x2
    go_wp2_with fail
    
    refine (OC.out _ (HA.out.ext X2.out)).mono ?_; rintro e w3 ⟨v3, rfl, o3, x3⟩
    obtain ⟨a3, c3, rfl, _, _, r3⟩ := o3.form
    have R3 := Lib.hid r3
    replace h0 := x3.cell h0
    replace h1 := x3.cell h1
    have X3 := Lib.hid (X2.out.trans x3)
    clear o3 r3 x3
    go_wp2_with fail
    refine (SL1.out _ _ _ R3.out).mono ?_; rintro e w4 ⟨v4, rfl, o4, x4⟩
    replace h0 := x4.cell h0
    replace h1 := x4.cell h1
    have X4 := Lib.hid (X3.out.trans x4)
    obtain ⟨a4, c4, rfl, _, _⟩ := o4.formN k1 HK1.out
    clear o4 x4
    go_wp2_with fail
    refine region_facts [[], [(0, 40)], [], [], [(3, 43)], [(2, 42), (4, 44)], [(1, 41), (5, 45)], [(6, 46)], [(7, 39)], [(7, 39)], [(8, 47)], [(9, 48)]] [some 40, some 41, some 42, some 43, some 44, some 45, some 46, some 39, some 47, some 48, some 9, some 10] (by kernel_rfl) (by kernel_rfl) ?_
    with_reducible apply From.eq
    · intro w' hx; have h0x := hx.cell h0; (try dsimp only [List.nil_append, List.cons_append]); dsimp only [DepsV, fat, eqF]; go_wp2; exact OpPost.some _ rfl rfl (Ext.refl _) rfl
    refine From.step (OwnF w4.heap.size vs) (OwnF.mono) ?_ ?_
    · intro w' hx; have h0x := hx.cell h0; (try dsimp only [List.nil_append, List.cons_append]); dsimp only [DepsV, fat, eqF]; rintro _ rfl; skip;
      go_wp2_with (go_at_call 12; refine (OC.out _ (HA.out.ext (X4.out.trans hx))).mono ?_; rintro e w2 ⟨v, rfl, ho, hn⟩); exact OpPost.some _ rfl rfl hn (ho.base hx.size)
    with_reducible apply From.eq
    · intro w' hx; have h0x := hx.cell h0; (try dsimp only [List.nil_append, List.cons_append]); dsimp only [DepsV, fat, eqF]; go_wp2; exact OpPost.some _ rfl rfl (Ext.refl _) rfl
    with_reducible apply From.eq
    · intro w' hx; have h0x := hx.cell h0; (try dsimp only [List.nil_append, List.cons_append]); dsimp only [DepsV, fat, eqF]; go_wp2; exact OpPost.some _ rfl rfl (Ext.refl _) rfl
    with_reducible apply From.eq
    · intro w' hx; have h0x := hx.cell h0; (try dsimp only [List.nil_append, List.cons_append]); dsimp only [DepsV, fat, eqF]; rintro _ rfl; go_wp2; exact OpPost.some _ rfl rfl (Ext.refl _) rfl
    with_reducible apply From.eq
    · intro w' hx; have h0x := hx.cell h0; (try dsimp only [List.nil_append, List.cons_append]); dsimp only [DepsV, fat, eqF]; rintro _ rfl _ rfl; go_wp2; exact OpPost.some _ rfl rfl (Ext.refl _) rfl
    refine From.step (TupF k2 15) (TupF.mono) ?_ ?_
    · intro w' hx; have h0x := hx.cell h0; (try dsimp only [List.nil_append, List.cons_append]); dsimp only [DepsV, fat, eqF]; rintro v1 g1; rintro _ rfl; obtain ⟨a5, c5, rfl, _, _, r5⟩ := g1.form;
      go_wp2_with (go_at_call 11; refine (SL2.out _ _ _ r5).mono ?_; rintro e w2 ⟨v, rfl, ho, hn⟩); exact OpPost.some _ rfl rfl hn (by obtain ⟨a6, c6, e6, _, _⟩ := ho.formN k2 HK2.out; exact ⟨a6, c6, by rw [e6]⟩)
    refine From.step (TupF k2 15) (TupF.mono) ?_ ?_
    · intro w' hx; have h0x := hx.cell h0; (try dsimp only [List.nil_append, List.cons_append]); dsimp only [DepsV, fat, eqF]; rintro v6 g6; go_wp2; exact OpPost.some _ rfl rfl (Ext.refl _) g6
    -- 8: t47
    refine From.step (SlcF k2) SlcF.mono ?_ ?_
    · intro w' hx; have h0x := hx.cell h0; (try dsimp only [List.nil_append, List.cons_append]); dsimp only [DepsV, fat, eqF]; rintro v7_ h7_; obtain ⟨a6, c6, rfl⟩ := h7_; go_wp2; exact OpPost.some _ rfl rfl (Ext.refl _) ⟨_, _, rfl⟩
    -- 9: t48
    with_reducible apply From.eq
    · intro w' hx; have h0x := hx.cell h0; (try dsimp only [List.nil_append, List.cons_append]); dsimp only [DepsV, fat, eqF]; rintro v7_ h7_; obtain ⟨a6, c6, rfl⟩ := h7_; go_wp2; exact OpPost.some _ rfl rfl (Ext.refl _) rfl
    -- 10: t9
    refine From.step (SlcF k2) SlcF.mono ?_ ?_
    · intro w' hx; have h0x := hx.cell h0; (try dsimp only [List.nil_append, List.cons_append]); dsimp only [DepsV, fat, eqF]; rintro v8 g8; go_wp2; exact OpPost.some _ rfl rfl (Ext.refl _) g8
    with_reducible apply From.eq
    · intro w' hx; have h0x := hx.cell h0; (try dsimp only [List.nil_append, List.cons_append]); dsimp only [DepsV, fat, eqF]; rintro _ rfl; go_wp2; exact OpPost.some _ rfl rfl (Ext.refl _) rfl
    with_reducible refine From.fin ?_
    intro w' hx
    (try dsimp only [List.nil_append, List.cons_append]); dsimp only [EndV, eqF]; rintro _ rfl v1 g1 _ rfl _ rfl _ rfl _ rfl v6 g6 v7_ h7_ v8 g8 _ rfl v10 g10 _ rfl; simp only [Act.put, List.setIfInBounds_toArray, List.set_cons_zero, List.set_cons_succ]
    obtain ⟨a6, c6, rfl⟩ := g10
    have X6 := Lib.hid (X4.out.trans hx)
    replace h1 := hx.cell h1
    obtain ⟨WW, hWW⟩ : ∃ u : World, u = w' := ⟨_, rfl⟩
    subst hWW
    clear g1 g6 h7_ g8 hx h0
    go_wp2_with fail
    
    refine region_factsH 6 [[], [(0, 63)], [], [(2, 65)], [(3, 66)], [(4, 67)], [(1, 64), (5, 68)], [], [(6, 69), (7, 70)], [(8, 71)], [(9, 62)], [(9, 62)], [(10, 72)], [(11, 73)]] [some 63, some 64, some 65, some 66, some 67, some 68, some 69, some 70, some 71, some 62, some 72, some 73, some 11, some 12] (by kernel_rfl) (by kernel_rfl) (by decide) ?_
    with_reducible apply FromH.preEq
    · kernel_rfl
    · intro w' hx; have h1x := hx.cell h1; (try dsimp only [List.nil_append, List.cons_append]); dsimp only [DepsV, fat, eqF, valF]; go_wp2; exact PostI.some _ rfl rfl ⟨Ext.refl _, rfl⟩
    refine FromH.pre (OwnF WW.heap.size vs) (fun _ => True) (by kernel_rfl) OwnF.mono (fun _ _ _ => trivial) ?_ ?_
    · intro w' hx; have h1x := hx.cell h1; (try dsimp only [List.nil_append, List.cons_append]); dsimp only [DepsV, fat, eqF, valF]; rintro _ rfl; go_wp2_with (go_at_call 12; refine (OC.out _ (HA.out.ext (X6.out.trans hx))).mono ?_; rintro e w5 ⟨v, rfl, ho, hn'⟩); exact PostI.some _ rfl rfl ⟨hn', ho.base hx.size⟩
    with_reducible apply FromH.preEq
    · kernel_rfl
    · intro w' hx; have h1x := hx.cell h1; (try dsimp only [List.nil_append, List.cons_append]); dsimp only [DepsV, fat, eqF, valF]; go_wp2; exact PostI.some _ rfl rfl ⟨Ext.refl _, rfl⟩
    with_reducible apply FromH.preEq
    · kernel_rfl
    · intro w' hx; have h1x := hx.cell h1; (try dsimp only [List.nil_append, List.cons_append]); dsimp only [DepsV, fat, eqF, valF]; rintro _ rfl; go_wp2; exact PostI.some _ rfl rfl ⟨Ext.refl _, rfl⟩
    with_reducible apply FromH.preEq
    · kernel_rfl
    · intro w' hx; have h1x := hx.cell h1; (try dsimp only [List.nil_append, List.cons_append]); dsimp only [DepsV, fat, eqF, valF]; rintro _ rfl; go_wp2; exact PostI.some _ rfl rfl ⟨Ext.refl _, rfl⟩
    refine FromH.pre (OneM q) (fun _ => True) (by kernel_rfl) OneM.mono (fun _ _ _ => trivial) ?_ ?_
    · intro w' hx; have h1x := hx.cell h1; (try dsimp only [List.nil_append, List.cons_append]); dsimp only [DepsV, fat, eqF, valF]; rintro _ rfl; go_wp2; exact PostI.some _ rfl rfl ⟨(Ext.refl _).alloc _, _, rfl, by rw [← HQ.out]; simp⟩
    refine FromH.wr (OwnF WW.heap.size (vs ++ [q])) rfl OwnF.mono ?_ ?_
    · intro w' hx; have h1x := hx.cell h1; (try dsimp only [List.nil_append, List.cons_append]); dsimp only [DepsV, fat, eqF, valF]; rintro v1 g1; rintro v5 g5; obtain ⟨b5, rfl, hb5⟩ := g5; go_wp2_with (at_builtin; refine wpList_app1 rfl (.tmp 64) (.tmp 68) rfl WW.heap.size _ _ rfl g1 b5 q 1 rfl hb5 (by simp; omega) hx.size ?_; intro v' w8 hown8 hx8 _); exact PostI.some _ rfl rfl ⟨hx8 _ hx (Nat.le_refl _), hown8⟩
    with_reducible apply FromH.beq
    · decide
    · kernel_rfl
    · intro w' hx; have h1x := hx.cell h1; (try dsimp only [List.nil_append, List.cons_append]); dsimp only [DepsV, fat, eqF, valF]; go_wp2; exact PostI.some _ rfl rfl ⟨Ext.refl _, rfl⟩
    refine FromH.be (fun v => ∃ a c, v = .tuple #[.slice a k3 c, .int .i64 0]) (by decide) (by kernel_rfl) ?_ ?_
    · intro w' hx; have h1x := hx.cell h1; (try dsimp only [List.nil_append, List.cons_append]); dsimp only [DepsV, fat, eqF, valF]; rintro v6 g6; rintro _ rfl; obtain ⟨a7, c7, rfl, _, r7⟩ := g6.formN _ HL3.out; go_wp2_with (go_at_call 11; refine (SL3.out _ _ _ r7).mono ?_; rintro e w8 ⟨v8, rfl, o8, x8⟩); obtain ⟨a8, c8, e8, _, _⟩ := o8.formN k3 HK3.out; exact PostI.some _ rfl rfl ⟨x8, a8, c8, by rw [e8]⟩
    refine FromH.be (fun v => ∃ a c, v = .tuple #[.slice a k3 c, .int .i64 0]) (by decide) (by kernel_rfl) ?_ ?_
    · intro w' hx; have h1x := hx.cell h1; (try dsimp only [List.nil_append, List.cons_append]); dsimp only [DepsV, fat, eqF, valF]; rintro v8 g8; go_wp2; exact PostI.some _ rfl rfl ⟨Ext.refl _, g8⟩
    refine FromH.be (fun v => ∃ a c, v = .slice a k3 c) (by decide) (by kernel_rfl) ?_ ?_
    · intro w' hx; have h1x := hx.cell h1; (try dsimp only [List.nil_append, List.cons_append]); dsimp only [DepsV, fat, eqF, valF]; rintro v9 g9; obtain ⟨a8, c8, rfl⟩ := g9; go_wp2; exact PostI.some _ rfl rfl ⟨Ext.refl _, _, _, rfl⟩
    with_reducible apply FromH.beq
    · decide
    · kernel_rfl
    · intro w' hx; have h1x := hx.cell h1; (try dsimp only [List.nil_append, List.cons_append]); dsimp only [DepsV, fat, eqF, valF]; rintro v9 g9; obtain ⟨a8, c8, rfl⟩ := g9; go_wp2; exact PostI.some _ rfl rfl ⟨Ext.refl _, rfl⟩
    refine FromH.be (fun v => ∃ a c, v = .slice a k3 c) (by decide) (by kernel_rfl) ?_ ?_
    · intro w' hx; have h1x := hx.cell h1; (try dsimp only [List.nil_append, List.cons_append]); dsimp only [DepsV, fat, eqF, valF]; rintro v10 g10; go_wp2; exact PostI.some _ rfl rfl ⟨Ext.refl _, g10⟩
    with_reducible apply FromH.beq
    · decide
    · kernel_rfl
    · intro w' hx; have h1x := hx.cell h1; (try dsimp only [List.nil_append, List.cons_append]); dsimp only [DepsV, fat, eqF, valF]; rintro _ rfl; go_wp2; exact PostI.some _ rfl rfl ⟨Ext.refl _, rfl⟩
    with_reducible refine FromH.fin ?_
    intro w' hx
    (try dsimp only [List.nil_append, List.cons_append]); dsimp only [EndV, eqF, valF]; rintro _ rfl v1 _ _ rfl _ rfl _ rfl v5 _ v6 g6 _ rfl v8 g8 v9 g9 v10 g10 _ rfl v12 g12 _ rfl; simp only [Act.put, List.setIfInBounds_toArray, List.set_cons_zero, List.set_cons_succ]
    obtain ⟨a8, c8, rfl⟩ := g12
    have X8 := Lib.hid (X6.out.trans hx)
    clear g6 g8 g9 g10 hx h1
    go_wp2_with fail
    go_ret
    exact ⟨rfl, X8.out⟩
  · rw [s1] at SL1
    rw [s2] at SL2
    obtain ⟨ge, hge⟩ : ∃ ge, ge = selE (vs ++ [q]) t 24 := ⟨_, rfl⟩
    rw [← hge] at SL3
    clear s1 s2 hge
    go_enter Try.func6, Try.ntmps6
    go_wp2_with fail
    refine (awake50_c _).mono ?_; rintro e w1 ⟨rfl, x1⟩
    replace h0 := x1.cell h0
    replace h1 := x1.cell h1
    have X1 := Lib.hid x1.box
    clear x1
    go_wp2_with fail
    refine (EC.out _ (HA.out.ext X1.out)).mono ?_; rintro e w2 ⟨rfl, x2⟩
    replace h0 := x2.cell h0
    replace h1 := x2.cell h1
    have X2 := Lib.hid (X1.out.trans x2)
    clear x2
    go_wp2_with fail
    
    refine (OC.out _ (HA.out.ext X2.out)).mono ?_; rintro e w3 ⟨v3, rfl, o3, x3⟩
    obtain ⟨a3, c3, rfl, _, _, r3⟩ := o3.form
    have R3 := Lib.hid r3
    replace h0 := x3.cell h0
    replace h1 := x3.cell h1
    have X3 := Lib.hid (X2.out.trans x3)
    clear o3 r3 x3
    go_wp2_with fail
    refine (SL1.out _ _ _ R3.out).mono ?_; rintro e w4 ⟨v4, rfl, o4, x4⟩
    replace h0 := x4.cell h0
    replace h1 := x4.cell h1
    have X4 := Lib.hid (X3.out.trans x4)
    obtain ⟨a4, c4, rfl, _, _⟩ := o4.formN k1 HK1.out
    clear o4 x4
    go_wp2_with fail
    refine region_facts [[], [(0, 40)], [], [], [(3, 43)], [(2, 42), (4, 44)], [(1, 41), (5, 45)], [(6, 46)], [(7, 39)], [(7, 39)], [(8, 47)], [(9, 48)]] [some 40, some 41, some 42, some 43, some 44, some 45, some 46, some 39, some 47, some 48, some 9, some 10] (by kernel_rfl) (by kernel_rfl) ?_
    with_reducible apply From.eq
    · intro w' hx; have h0x := hx.cell h0; (try dsimp only [List.nil_append, List.cons_append]); dsimp only [DepsV, fat, eqF]; go_wp2; exact OpPost.some _ rfl rfl (Ext.refl _) rfl
    refine From.step (OwnF w4.heap.size vs) (OwnF.mono) ?_ ?_
    · intro w' hx; have h0x := hx.cell h0; (try dsimp only [List.nil_append, List.cons_append]); dsimp only [DepsV, fat, eqF]; rintro _ rfl; skip;
      go_wp2_with (go_at_call 12; refine (OC.out _ (HA.out.ext (X4.out.trans hx))).mono ?_; rintro e w2 ⟨v, rfl, ho, hn⟩); exact OpPost.some _ rfl rfl hn (ho.base hx.size)
    with_reducible apply From.eq
    · intro w' hx; have h0x := hx.cell h0; (try dsimp only [List.nil_append, List.cons_append]); dsimp only [DepsV, fat, eqF]; go_wp2; exact OpPost.some _ rfl rfl (Ext.refl _) rfl
    with_reducible apply From.eq
    · intro w' hx; have h0x := hx.cell h0; (try dsimp only [List.nil_append, List.cons_append]); dsimp only [DepsV, fat, eqF]; go_wp2; exact OpPost.some _ rfl rfl (Ext.refl _) rfl
    with_reducible apply From.eq
    · intro w' hx; have h0x := hx.cell h0; (try dsimp only [List.nil_append, List.cons_append]); dsimp only [DepsV, fat, eqF]; rintro _ rfl; go_wp2; exact OpPost.some _ rfl rfl (Ext.refl _) rfl
    with_reducible apply From.eq
    · intro w' hx; have h0x := hx.cell h0; (try dsimp only [List.nil_append, List.cons_append]); dsimp only [DepsV, fat, eqF]; rintro _ rfl _ rfl; go_wp2; exact OpPost.some _ rfl rfl (Ext.refl _) rfl
    refine From.step (TupF k2 15) (TupF.mono) ?_ ?_
    · intro w' hx; have h0x := hx.cell h0; (try dsimp only [List.nil_append, List.cons_append]); dsimp only [DepsV, fat, eqF]; rintro v1 g1; rintro _ rfl; obtain ⟨a5, c5, rfl, _, _, r5⟩ := g1.form;
      go_wp2_with (go_at_call 11; refine (SL2.out _ _ _ r5).mono ?_; rintro e w2 ⟨v, rfl, ho, hn⟩); exact OpPost.some _ rfl rfl hn (by obtain ⟨a6, c6, e6, _, _⟩ := ho.formN k2 HK2.out; exact ⟨a6, c6, by rw [e6]⟩)
    refine From.step (TupF k2 15) (TupF.mono) ?_ ?_
    · intro w' hx; have h0x := hx.cell h0; (try dsimp only [List.nil_append, List.cons_append]); dsimp only [DepsV, fat, eqF]; rintro v6 g6; go_wp2; exact OpPost.some _ rfl rfl (Ext.refl _) g6
    -- 8: t47
    refine From.step (SlcF k2) SlcF.mono ?_ ?_
    · intro w' hx; have h0x := hx.cell h0; (try dsimp only [List.nil_append, List.cons_append]); dsimp only [DepsV, fat, eqF]; rintro v7_ h7_; obtain ⟨a6, c6, rfl⟩ := h7_; go_wp2; exact OpPost.some _ rfl rfl (Ext.refl _) ⟨_, _, rfl⟩
    -- 9: t48
    with_reducible apply From.eq
    · intro w' hx; have h0x := hx.cell h0; (try dsimp only [List.nil_append, List.cons_append]); dsimp only [DepsV, fat, eqF]; rintro v7_ h7_; obtain ⟨a6, c6, rfl⟩ := h7_; go_wp2; exact OpPost.some _ rfl rfl (Ext.refl _) rfl
    -- 10: t9
    refine From.step (SlcF k2) SlcF.mono ?_ ?_
    · intro w' hx; have h0x := hx.cell h0; (try dsimp only [List.nil_append, List.cons_append]); dsimp only [DepsV, fat, eqF]; rintro v8 g8; go_wp2; exact OpPost.some _ rfl rfl (Ext.refl _) g8
    with_reducible apply From.eq
    · intro w' hx; have h0x := hx.cell h0; (try dsimp only [List.nil_append, List.cons_append]); dsimp only [DepsV, fat, eqF]; rintro _ rfl; go_wp2; exact OpPost.some _ rfl rfl (Ext.refl _) rfl
    with_reducible refine From.fin ?_
    intro w' hx
    (try dsimp only [List.nil_append, List.cons_append]); dsimp only [EndV, eqF]; rintro _ rfl v1 g1 _ rfl _ rfl _ rfl _ rfl v6 g6 v7_ h7_ v8 g8 _ rfl v10 g10 _ rfl; simp only [Act.put, List.setIfInBounds_toArray, List.set_cons_zero, List.set_cons_succ]
    obtain ⟨a6, c6, rfl⟩ := g10
    have X6 := Lib.hid (X4.out.trans hx)
    replace h1 := hx.cell h1
    obtain ⟨WW, hWW⟩ : ∃ u : World, u = w' := ⟨_, rfl⟩
    subst hWW
    clear g1 g6 h7_ g8 hx h0
    go_wp2_with fail
    
    refine region_factsH 6 [[], [(0, 63)], [], [(2, 65)], [(3, 66)], [(4, 67)], [(1, 64), (5, 68)], [], [(6, 69), (7, 70)], [(8, 71)], [(9, 62)], [(9, 62)], [(10, 72)], [(11, 73)]] [some 63, some 64, some 65, some 66, some 67, some 68, some 69, some 70, some 71, some 62, some 72, some 73, some 11, some 12] (by kernel_rfl) (by kernel_rfl) (by decide) ?_
    with_reducible apply FromH.preEq
    · kernel_rfl
    · intro w' hx; have h1x := hx.cell h1; (try dsimp only [List.nil_append, List.cons_append]); dsimp only [DepsV, fat, eqF, valF]; go_wp2; exact PostI.some _ rfl rfl ⟨Ext.refl _, rfl⟩
    refine FromH.pre (OwnF WW.heap.size vs) (fun _ => True) (by kernel_rfl) OwnF.mono (fun _ _ _ => trivial) ?_ ?_
    · intro w' hx; have h1x := hx.cell h1; (try dsimp only [List.nil_append, List.cons_append]); dsimp only [DepsV, fat, eqF, valF]; rintro _ rfl; go_wp2_with (go_at_call 12; refine (OC.out _ (HA.out.ext (X6.out.trans hx))).mono ?_; rintro e w5 ⟨v, rfl, ho, hn'⟩); exact PostI.some _ rfl rfl ⟨hn', ho.base hx.size⟩
    with_reducible apply FromH.preEq
    · kernel_rfl
    · intro w' hx; have h1x := hx.cell h1; (try dsimp only [List.nil_append, List.cons_append]); dsimp only [DepsV, fat, eqF, valF]; go_wp2; exact PostI.some _ rfl rfl ⟨Ext.refl _, rfl⟩
    with_reducible apply FromH.preEq
    · kernel_rfl
    · intro w' hx; have h1x := hx.cell h1; (try dsimp only [List.nil_append, List.cons_append]); dsimp only [DepsV, fat, eqF, valF]; rintro _ rfl; go_wp2; exact PostI.some _ rfl rfl ⟨Ext.refl _, rfl⟩
    with_reducible apply FromH.preEq
    · kernel_rfl
    · intro w' hx; have h1x := hx.cell h1; (try dsimp only [List.nil_append, List.cons_append]); dsimp only [DepsV, fat, eqF, valF]; rintro _ rfl; go_wp2; exact PostI.some _ rfl rfl ⟨Ext.refl _, rfl⟩
    refine FromH.pre (OneM q) (fun _ => True) (by kernel_rfl) OneM.mono (fun _ _ _ => trivial) ?_ ?_
    · intro w' hx; have h1x := hx.cell h1; (try dsimp only [List.nil_append, List.cons_append]); dsimp only [DepsV, fat, eqF, valF]; rintro _ rfl; go_wp2; exact PostI.some _ rfl rfl ⟨(Ext.refl _).alloc _, _, rfl, by rw [← HQ.out]; simp⟩
    refine FromH.wr (OwnF WW.heap.size (vs ++ [q])) rfl OwnF.mono ?_ ?_
    · intro w' hx; have h1x := hx.cell h1; (try dsimp only [List.nil_append, List.cons_append]); dsimp only [DepsV, fat, eqF, valF]; rintro v1 g1; rintro v5 g5; obtain ⟨b5, rfl, hb5⟩ := g5; go_wp2_with (at_builtin; refine wpList_app1 rfl (.tmp 64) (.tmp 68) rfl WW.heap.size _ _ rfl g1 b5 q 1 rfl hb5 (by simp; omega) hx.size ?_; intro v' w8 hown8 hx8 _); exact PostI.some _ rfl rfl ⟨hx8 _ hx (Nat.le_refl _), hown8⟩
    with_reducible apply FromH.beq
    · decide
    · kernel_rfl
    · intro w' hx; have h1x := hx.cell h1; (try dsimp only [List.nil_append, List.cons_append]); dsimp only [DepsV, fat, eqF, valF]; go_wp2; exact PostI.some _ rfl rfl ⟨Ext.refl _, rfl⟩
    refine FromH.be (fun v => ∃ a c, v = .tuple #[.slice a k3 c, .int .i64 ge]) (by decide) (by kernel_rfl) ?_ ?_
    · intro w' hx; have h1x := hx.cell h1; (try dsimp only [List.nil_append, List.cons_append]); dsimp only [DepsV, fat, eqF, valF]; rintro v6 g6; rintro _ rfl; obtain ⟨a7, c7, rfl, _, r7⟩ := g6.formN _ HL3.out; go_wp2_with (go_at_call 11; refine (SL3.out _ _ _ r7).mono ?_; rintro e w8 ⟨v8, rfl, o8, x8⟩); obtain ⟨a8, c8, e8, _, _⟩ := o8.formN k3 HK3.out; exact PostI.some _ rfl rfl ⟨x8, a8, c8, by rw [e8]⟩
    refine FromH.be (fun v => ∃ a c, v = .tuple #[.slice a k3 c, .int .i64 ge]) (by decide) (by kernel_rfl) ?_ ?_
    · intro w' hx; have h1x := hx.cell h1; (try dsimp only [List.nil_append, List.cons_append]); dsimp only [DepsV, fat, eqF, valF]; rintro v8 g8; go_wp2; exact PostI.some _ rfl rfl ⟨Ext.refl _, g8⟩
    refine FromH.be (fun v => ∃ a c, v = .slice a k3 c) (by decide) (by kernel_rfl) ?_ ?_
    · intro w' hx; have h1x := hx.cell h1; (try dsimp only [List.nil_append, List.cons_append]); dsimp only [DepsV, fat, eqF, valF]; rintro v9 g9; obtain ⟨a8, c8, rfl⟩ := g9; go_wp2; exact PostI.some _ rfl rfl ⟨Ext.refl _, _, _, rfl⟩
    with_reducible apply FromH.beq
    · decide
    · kernel_rfl
    · intro w' hx; have h1x := hx.cell h1; (try dsimp only [List.nil_append, List.cons_append]); dsimp only [DepsV, fat, eqF, valF]; rintro v9 g9; obtain ⟨a8, c8, rfl⟩ := g9; go_wp2; exact PostI.some _ rfl rfl ⟨Ext.refl _, rfl⟩
    refine FromH.be (fun v => ∃ a c, v = .slice a k3 c) (by decide) (by kernel_rfl) ?_ ?_
    · intro w' hx; have h1x := hx.cell h1; (try dsimp only [List.nil_append, List.cons_append]); dsimp only [DepsV, fat, eqF, valF]; rintro v10 g10; go_wp2; exact PostI.some _ rfl rfl ⟨Ext.refl _, g10⟩
    with_reducible apply FromH.beq
    · decide
    · kernel_rfl
    · intro w' hx; have h1x := hx.cell h1; (try dsimp only [List.nil_append, List.cons_append]); dsimp only [DepsV, fat, eqF, valF]; rintro _ rfl; go_wp2; exact PostI.some _ rfl rfl ⟨Ext.refl _, rfl⟩
    with_reducible refine FromH.fin ?_
    intro w' hx
    (try dsimp only [List.nil_append, List.cons_append]); dsimp only [EndV, eqF, valF]; rintro _ rfl v1 _ _ rfl _ rfl _ rfl v5 _ v6 g6 _ rfl v8 g8 v9 g9 v10 g10 _ rfl v12 g12 _ rfl; simp only [Act.put, List.setIfInBounds_toArray, List.set_cons_zero, List.set_cons_succ]
    obtain ⟨a8, c8, rfl⟩ := g12
    have X8 := Lib.hid (X6.out.trans hx)
    clear g6 g8 g9 g10 hx h1
    go_wp2_with fail
    go_ret
    exact ⟨rfl, X8.out⟩
end Go.Proofs.Ytndiaamoapidoaa
