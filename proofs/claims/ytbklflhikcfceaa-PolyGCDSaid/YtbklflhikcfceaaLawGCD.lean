/- Walks of laws of layer 3. -/
import Derived.Test.YtbklflhikcfceaaLaw
import Derived.Test.YtbklflhikcfceaaRef7
namespace Go.Proofs.Ytbklflhikcfceaa
open Go.RowKit

theorem rmul_inv {p : Nat} (hv : vld p = false) (a b : List Nat) : rmul p a b = [] := by
  unfold rmul
  cases h : a.length with
  | zero => rfl
  | succ n => rw [rmulK]; exact Q.inv_zero hv _
theorem eg_len {p : Nat} (hv : vld p = true) : ∀ k (a b : List Nat), Q.Nf p b → (Q.eg p k a b).length ≤ max a.length b.length
  | 0, a, b, _ => by rw [Q.eg]; omega
  | k + 1, a, b, hb => by
    rw [Q.eg]
    by_cases h : b.length = 0
    · rw [if_pos h]; omega
    · rw [if_neg h]
      have h1 := eg_len hv k b (prem p a b) (Q.prem_nf hv hb a h)
      have h2 := Q.prem_lt hv hb a h
      omega
theorem monic_len (p : Nat) (g : List Nat) : (Q.monic p g).length ≤ g.length := by
  unfold Q.monic; split
  · simp
  · exact rscale_le _ _ _

set_option maxRecDepth 100000 in
set_option maxHeartbeats 2000000 in
theorem PolyGCD_w (p : Nat) (l m k : List Nat) (a b e : Option Addr) (c d f : Nat) (w : World) (ha : Rd w a l) (hb : Rd w b m) (hk : Rd w e k) :
    Calls Try.prog 10 #[.int .u64 p, .agg #[.slice a l.length c, .slice b m.length d], .slice e k.length f] w fun e w' => e = .returned (.bool true) ∧ Ext w w' := by
  have HA := Lib.hid ha
  have HB := Lib.hid hb
  have HK := Lib.hid hk
  clear ha hb hk
  have h0 : (w.alloc (.cells #[.slice a l.length c, .slice b m.length d] 50)).cell? ⟨w.heap.size, 0, none⟩ = some (.slice a l.length c) := by simp
  have h1 : (w.alloc (.cells #[.slice a l.length c, .slice b m.length d] 50)).cell? ⟨w.heap.size, 1, none⟩ = some (.slice b m.length d) := by simp
  by_cases hf0 : l.length ≤ 10
  case neg =>
    have hd0 : decide ((10 : Int) < l.length) = true := decide_eq_true (by omega)
    clear hf0
    go_enter Try.func10, Try.ntmps10
    go_wp2_with fail
    refine (awake_c _).mono ?_; rintro e w1 ⟨rfl, x0⟩
    replace h0 := x0.cell h0
    replace h1 := x0.cell h1
    have X := x0.box
    clear x0
    go_wp2_with fail
    refine (awake_c _).mono ?_; rintro e w2 ⟨rfl, x3⟩
    replace h0 := x3.cell h0
    replace h1 := x3.cell h1
    replace X := X.trans x3
    clear x3
    go_wp2_with fail
    go_ret
    exact ⟨rfl, X⟩
  have hd0 : decide ((10 : Int) < l.length) = false := decide_eq_false (by omega)
  by_cases hf1 : m.length ≤ 10
  case neg =>
    have hd1 : decide ((10 : Int) < m.length) = true := decide_eq_true (by omega)
    clear hf1
    go_enter Try.func10, Try.ntmps10
    go_wp2_with fail
    refine (awake_c _).mono ?_; rintro e w1 ⟨rfl, x0⟩
    replace h0 := x0.cell h0
    replace h1 := x0.cell h1
    have X := x0.box
    clear x0
    go_wp2_with fail
    refine (awake_c _).mono ?_; rintro e w2 ⟨rfl, x3⟩
    replace h0 := x3.cell h0
    replace h1 := x3.cell h1
    replace X := X.trans x3
    clear x3
    go_wp2_with fail
    go_ret
    exact ⟨rfl, X⟩
  have hd1 : decide ((10 : Int) < m.length) = false := decide_eq_false (by omega)
  by_cases hf2 : k.length ≤ 10
  case neg =>
    have hd2 : decide ((10 : Int) < k.length) = true := decide_eq_true (by omega)
    clear hf2
    go_enter Try.func10, Try.ntmps10
    go_wp2_with fail
    refine (awake_c _).mono ?_; rintro e w1 ⟨rfl, x0⟩
    replace h0 := x0.cell h0
    replace h1 := x0.cell h1
    have X := x0.box
    clear x0
    go_wp2_with fail
    refine (awake_c _).mono ?_; rintro e w2 ⟨rfl, x3⟩
    replace h0 := x3.cell h0
    replace h1 := x3.cell h1
    replace X := X.trans x3
    clear x3
    go_wp2_with fail
    go_ret
    exact ⟨rfl, X⟩
  have hd2 : decide ((10 : Int) < k.length) = false := decide_eq_false (by omega)
  have M1 := fun w' (h1 : Rd w' a l) (h2 : Rd w' e k) => RMulP_c p l k a e c f w' h1 h2 (by omega) (by omega)
  have M2 := fun w' (h1 : Rd w' b m) (h2 : Rd w' e k) => RMulP_c p m k b e d f w' h1 h2 (by omega) (by omega)
  have z1 := rmul_le p l k
  have z2 := rmul_le p m k
  have GL : (Q.monic p (Q.pgcd p (rmul p l k) (rmul p m k))).length ≤ 20 := by
    cases hv : vld p
    · rw [Q.gcd_inv hv]; simp
    · have h1 := monic_len p (Q.pgcd p (rmul p l k) (rmul p m k))
      have h2 := eg_len hv (trimP p (rmul p m k)).length (trimP p (rmul p l k)) _ (Q.Nf.trim hv (rmul p m k))
      have h3 := trimP_le p (rmul p l k)
      have h4 := trimP_le p (rmul p m k)
      unfold Q.pgcd at h1
      unfold Q.pgcd; omega
  have key : (Q.monic p (Q.pgcd p (rmul p l k) (rmul p m k))).length = 0 → (rmul p l k).length = 0 ∧ (rmul p m k).length = 0 := fun h => by
    cases hv : vld p
    · rw [rmul_inv hv, rmul_inv hv]; simp
    · have h2 := Q.gcd_zero hv (List.eq_nil_of_length_eq_zero h)
      rw [(Q.Nf.mul hv l k).id hv, (Q.Nf.mul hv m k).id hv] at h2
      rw [h2.1, h2.2]; simp
  have key2 : (Q.monic p (Q.pgcd p (rmul p l k) (rmul p m k))).length ≠ 0 → vld p = true ∧ prem p (rmul p l k) (Q.monic p (Q.pgcd p (rmul p l k) (rmul p m k))) = [] ∧ prem p (rmul p m k) (Q.monic p (Q.pgcd p (rmul p l k) (rmul p m k))) = [] ∧ (0 < (trimP p k).length → prem p (Q.monic p (Q.pgcd p (rmul p l k) (rmul p m k))) k = []) ∧ trimP p (Q.monic p (Q.pgcd p (rmul p l k) (rmul p m k))) = Q.monic p (Q.pgcd p (rmul p l k) (rmul p m k)) := fun h => by
    cases hv : vld p
    · rw [Q.gcd_inv hv] at h; simp at h
    · have h2 := Q.gcd_divides hv h
      exact ⟨rfl, h2.1, h2.2, fun hk => Q.gcd_common hv l m k hk h, (Q.monic_nf hv _).id hv⟩
  have C1 := fun w' a' b' c' d' (h1 : Rd w' a' (rmul p l k)) (h2 : Rd w' b' (rmul p m k)) => GCD_c p (rmul p l k) (rmul p m k) a' b' c' d' w' h1 h2 (by omega) (by omega)
  have C2 := fun w' a' b' c' d' (h1 : Rd w' a' (rmul p l k)) (h2 : Rd w' b' (rmul p m k)) => RGCD_c p (rmul p l k) (rmul p m k) a' b' c' d' w' h1 h2 (by omega) (by omega)
  obtain ⟨A, hA⟩ : ∃ A, A = rmul p l k := ⟨_, rfl⟩
  obtain ⟨B, hB⟩ : ∃ B, B = rmul p m k := ⟨_, rfl⟩
  rw [← hA, ← hB] at GL key key2 C1 C2
  rw [← hA] at z1 M1
  rw [← hB] at z2 M2
  obtain ⟨g, hG⟩ : ∃ g, g = Q.monic p (Q.pgcd p A B) := ⟨_, rfl⟩
  rw [← hG] at GL key key2 C1 C2
  have D1 := fun w' => RDegree_c p k e f w'
  obtain ⟨n, hn⟩ : ∃ n, n = (trimP p k).length := ⟨_, rfl⟩
  rw [← hn] at D1 key2
  have HD1 := Lib.hid D1
  have HM1 := Lib.hid M1
  have HM2 := Lib.hid M2
  have HC1 := Lib.hid C1
  have HC2 := Lib.hid C2
  have HN := Lib.hid hn
  clear D1 M1 M2 C1 C2 hA hB hG hn
  by_cases hz : g.length = 0
  case pos =>
    have HZ : Hid (g.length = 0 ∧ A.length = 0 ∧ B.length = 0) := Lib.hid ⟨hz, key hz⟩
    clear key key2 hz
    go_enter Try.func10, Try.ntmps10
    go_wp2_with fail
    refine (awake_c _).mono ?_; rintro e w1 ⟨rfl, x0⟩
    replace h0 := x0.cell h0
    replace h1 := x0.cell h1
    have X := x0.box
    clear x0
    have ha := HA.out.ext X
    have hb := HB.out.ext X
    have hk := HK.out.ext X
    have RA := Lib.hid ha
    have RB := Lib.hid hb
    have RK := Lib.hid hk
    clear ha hb hk
    have hc : (w1.alloc (.cells #[.int .u64 p] 27)).cell? ⟨w1.heap.size, 0, none⟩ = some (.int .u64 p) := by simp
    have h0b := ((Ext.refl w1).alloc (.cells #[.int .u64 p] 27)).cell h0
    have h1b := ((Ext.refl w1).alloc (.cells #[.int .u64 p] 27)).cell h1
    go_wp2_with fail
    refine region_facts [[], [], [(1, 40)], [], [(0, 39), (2, 41), (3, 42)], [], [], [(6, 45)], [], [(5, 44), (7, 46), (8, 47)], [(4, 43)], [(9, 48)]] [some 39, some 40, some 41, some 42, some 43, some 44, some 45, some 46, some 47, some 48, some 8, some 9] (by kernel_rfl) (by kernel_rfl) ?_
    with_reducible apply From.eq
    · intro w' hx; have h0bx := hx.cell h0b; have h1bx := hx.cell h1b; (try dsimp only [List.nil_append, List.cons_append]); dsimp only [DepsV, fat, eqF]; go_wp2; exact OpPost.some _ rfl rfl (Ext.refl _) rfl
    with_reducible apply From.eq
    · intro w' hx; have h0bx := hx.cell h0b; have h1bx := hx.cell h1b; (try dsimp only [List.nil_append, List.cons_append]); dsimp only [DepsV, fat, eqF]; go_wp2; exact OpPost.some _ rfl rfl (Ext.refl _) rfl
    with_reducible apply From.eq
    · intro w' hx; have h0bx := hx.cell h0b; have h1bx := hx.cell h1b; (try dsimp only [List.nil_append, List.cons_append]); dsimp only [DepsV, fat, eqF]; rintro _ rfl; go_wp2; exact OpPost.some _ rfl rfl (Ext.refl _) rfl
    with_reducible apply From.eq
    · intro w' hx; have h0bx := hx.cell h0b; have h1bx := hx.cell h1b; (try dsimp only [List.nil_append, List.cons_append]); dsimp only [DepsV, fat, eqF]; go_wp2; exact OpPost.some _ rfl rfl (Ext.refl _) rfl
    refine From.step (RdF A) (RdF.mono) ?_ ?_
    · intro w' hx; have h0bx := hx.cell h0b; have h1bx := hx.cell h1b; (try dsimp only [List.nil_append, List.cons_append]); dsimp only [DepsV, fat, eqF]; rintro _ rfl _ rfl _ rfl; skip;
      go_wp2_with (go_at_call 20; refine (HM1.out _ (RA.out.ext hx.box) (RK.out.ext hx.box)).mono ?_; rintro e w2 ⟨v, rfl, ho, hn⟩); exact OpPost.some _ rfl rfl hn (RdF.of ho)
    with_reducible apply From.eq
    · intro w' hx; have h0bx := hx.cell h0b; have h1bx := hx.cell h1b; (try dsimp only [List.nil_append, List.cons_append]); dsimp only [DepsV, fat, eqF]; go_wp2; exact OpPost.some _ rfl rfl (Ext.refl _) rfl
    with_reducible apply From.eq
    · intro w' hx; have h0bx := hx.cell h0b; have h1bx := hx.cell h1b; (try dsimp only [List.nil_append, List.cons_append]); dsimp only [DepsV, fat, eqF]; go_wp2; exact OpPost.some _ rfl rfl (Ext.refl _) rfl
    with_reducible apply From.eq
    · intro w' hx; have h0bx := hx.cell h0b; have h1bx := hx.cell h1b; (try dsimp only [List.nil_append, List.cons_append]); dsimp only [DepsV, fat, eqF]; rintro _ rfl; go_wp2; exact OpPost.some _ rfl rfl (Ext.refl _) rfl
    with_reducible apply From.eq
    · intro w' hx; have h0bx := hx.cell h0b; have h1bx := hx.cell h1b; (try dsimp only [List.nil_append, List.cons_append]); dsimp only [DepsV, fat, eqF]; go_wp2; exact OpPost.some _ rfl rfl (Ext.refl _) rfl
    refine From.step (RdF B) (RdF.mono) ?_ ?_
    · intro w' hx; have h0bx := hx.cell h0b; have h1bx := hx.cell h1b; (try dsimp only [List.nil_append, List.cons_append]); dsimp only [DepsV, fat, eqF]; rintro _ rfl _ rfl _ rfl; skip;
      go_wp2_with (go_at_call 20; refine (HM2.out _ (RB.out.ext hx.box) (RK.out.ext hx.box)).mono ?_; rintro e w2 ⟨v, rfl, ho, hn⟩); exact OpPost.some _ rfl rfl hn (RdF.of ho)
    refine From.step (RdF A) (RdF.mono) ?_ ?_
    · intro w' hx; have h0bx := hx.cell h0b; have h1bx := hx.cell h1b; (try dsimp only [List.nil_append, List.cons_append]); dsimp only [DepsV, fat, eqF]; rintro v4 h4; go_wp2; exact OpPost.some _ rfl rfl (Ext.refl _) h4
    refine From.step (RdF B) (RdF.mono) ?_ ?_
    · intro w' hx; have h0bx := hx.cell h0b; have h1bx := hx.cell h1b; (try dsimp only [List.nil_append, List.cons_append]); dsimp only [DepsV, fat, eqF]; rintro v9 h9; go_wp2; exact OpPost.some _ rfl rfl (Ext.refl _) h9
    with_reducible refine From.fin ?_
    intro w' hx
    (try dsimp only [List.nil_append, List.cons_append]); dsimp only [EndV, eqF]; rintro _ rfl _ rfl _ rfl _ rfl v4 h4 _ rfl _ rfl _ rfl _ rfl v9 h9 v10_ h10_ v11_ h11_; simp only [Act.put, List.setIfInBounds_toArray, List.set_cons_zero, List.set_cons_succ]
    obtain ⟨aA, cA, rfl, _, rA⟩ := h10_
    obtain ⟨aB, cB, rfl, _, rB⟩ := h11_
    have rK := RK.out.ext hx.box
    replace hc := hx.cell hc
    replace X := X.trans hx.box
    clear h4 h9 h0 h1 h0b h1b hx
    go_wp2_with fail
    refine (HC1.out _ _ _ _ _ rA rB).mono ?_; rintro e w2 ⟨v, rfl, o4, x3⟩
    obtain ⟨rG_a, rG_c, rfl, _, _, rG⟩ := o4.form
    replace rA := rA.ext x3
    replace rB := rB.ext x3
    replace rK := rK.ext x3
    replace hc := x3.cell hc
    replace X := X.trans x3
    clear x3 o4
    go_wp2_with fail
    refine (HC2.out _ _ _ _ _ rA rB).mono ?_; rintro e w5 ⟨v, rfl, o7, x6⟩
    obtain ⟨rH_a, rH_c, rfl, _, _, rH⟩ := o7.form
    replace rA := rA.ext x6
    replace rB := rB.ext x6
    replace rK := rK.ext x6
    replace hc := x6.cell hc
    replace rG := rG.ext x6
    replace X := X.trans x6
    clear x6 o7
    go_wp2_with fail
    refine (same_c g _ _ _ _ _ _ rfl rG rH (by omega)).mono ?_; rintro e w8 ⟨rfl, x9⟩
    replace rA := rA.ext x9
    replace rB := rB.ext x9
    replace rK := rK.ext x9
    replace hc := x9.cell hc
    replace rG := rG.ext x9
    replace rH := rH.ext x9
    replace X := X.trans x9
    clear x9
    clear rH
    rw [HZ.out.1, HZ.out.2.1, HZ.out.2.2]
    go_wp2_with fail
    go_ret
    exact ⟨rfl, X⟩
  have t1 : ((g.length : Int) == 0) = false := beq_eq_false_iff_ne.2 (by omega)
  obtain ⟨hv, e1, e2, e3, e4⟩ := key2 hz
  have R1 := fun w' a' b' c' d' (h1 : Rd w' a' A) (h2 : Rd w' b' g) => RDivMod_c p A g a' b' c' d' w' hv h1 h2 (by omega) (by omega) (by rw [e4]; omega)
  have R2 := fun w' a' b' c' d' (h1 : Rd w' a' B) (h2 : Rd w' b' g) => RDivMod_c p B g a' b' c' d' w' hv h1 h2 (by omega) (by omega) (by rw [e4]; omega)
  rw [e1] at R1
  rw [e2] at R2
  have HR1 := Lib.hid R1
  have HR2 := Lib.hid R2
  have V := Lib.hid hv
  clear key key2 R1 R2 e1 e2 e4 hv
  by_cases hn : n = 0
  case pos =>
    have HZ := Lib.hid hn
    clear e3 hn
    go_enter Try.func10, Try.ntmps10
    go_wp2_with fail
    refine (awake_c _).mono ?_; rintro e w1 ⟨rfl, x0⟩
    replace h0 := x0.cell h0
    replace h1 := x0.cell h1
    have X := x0.box
    clear x0
    have ha := HA.out.ext X
    have hb := HB.out.ext X
    have hk := HK.out.ext X
    have RA := Lib.hid ha
    have RB := Lib.hid hb
    have RK := Lib.hid hk
    clear ha hb hk
    have hc : (w1.alloc (.cells #[.int .u64 p] 27)).cell? ⟨w1.heap.size, 0, none⟩ = some (.int .u64 p) := by simp
    have h0b := ((Ext.refl w1).alloc (.cells #[.int .u64 p] 27)).cell h0
    have h1b := ((Ext.refl w1).alloc (.cells #[.int .u64 p] 27)).cell h1
    go_wp2_with fail
    refine region_facts [[], [], [(1, 40)], [], [(0, 39), (2, 41), (3, 42)], [], [], [(6, 45)], [], [(5, 44), (7, 46), (8, 47)], [(4, 43)], [(9, 48)]] [some 39, some 40, some 41, some 42, some 43, some 44, some 45, some 46, some 47, some 48, some 8, some 9] (by kernel_rfl) (by kernel_rfl) ?_
    with_reducible apply From.eq
    · intro w' hx; have h0bx := hx.cell h0b; have h1bx := hx.cell h1b; (try dsimp only [List.nil_append, List.cons_append]); dsimp only [DepsV, fat, eqF]; go_wp2; exact OpPost.some _ rfl rfl (Ext.refl _) rfl
    with_reducible apply From.eq
    · intro w' hx; have h0bx := hx.cell h0b; have h1bx := hx.cell h1b; (try dsimp only [List.nil_append, List.cons_append]); dsimp only [DepsV, fat, eqF]; go_wp2; exact OpPost.some _ rfl rfl (Ext.refl _) rfl
    with_reducible apply From.eq
    · intro w' hx; have h0bx := hx.cell h0b; have h1bx := hx.cell h1b; (try dsimp only [List.nil_append, List.cons_append]); dsimp only [DepsV, fat, eqF]; rintro _ rfl; go_wp2; exact OpPost.some _ rfl rfl (Ext.refl _) rfl
    with_reducible apply From.eq
    · intro w' hx; have h0bx := hx.cell h0b; have h1bx := hx.cell h1b; (try dsimp only [List.nil_append, List.cons_append]); dsimp only [DepsV, fat, eqF]; go_wp2; exact OpPost.some _ rfl rfl (Ext.refl _) rfl
    refine From.step (RdF A) (RdF.mono) ?_ ?_
    · intro w' hx; have h0bx := hx.cell h0b; have h1bx := hx.cell h1b; (try dsimp only [List.nil_append, List.cons_append]); dsimp only [DepsV, fat, eqF]; rintro _ rfl _ rfl _ rfl; skip;
      go_wp2_with (go_at_call 20; refine (HM1.out _ (RA.out.ext hx.box) (RK.out.ext hx.box)).mono ?_; rintro e w2 ⟨v, rfl, ho, hn⟩); exact OpPost.some _ rfl rfl hn (RdF.of ho)
    with_reducible apply From.eq
    · intro w' hx; have h0bx := hx.cell h0b; have h1bx := hx.cell h1b; (try dsimp only [List.nil_append, List.cons_append]); dsimp only [DepsV, fat, eqF]; go_wp2; exact OpPost.some _ rfl rfl (Ext.refl _) rfl
    with_reducible apply From.eq
    · intro w' hx; have h0bx := hx.cell h0b; have h1bx := hx.cell h1b; (try dsimp only [List.nil_append, List.cons_append]); dsimp only [DepsV, fat, eqF]; go_wp2; exact OpPost.some _ rfl rfl (Ext.refl _) rfl
    with_reducible apply From.eq
    · intro w' hx; have h0bx := hx.cell h0b; have h1bx := hx.cell h1b; (try dsimp only [List.nil_append, List.cons_append]); dsimp only [DepsV, fat, eqF]; rintro _ rfl; go_wp2; exact OpPost.some _ rfl rfl (Ext.refl _) rfl
    with_reducible apply From.eq
    · intro w' hx; have h0bx := hx.cell h0b; have h1bx := hx.cell h1b; (try dsimp only [List.nil_append, List.cons_append]); dsimp only [DepsV, fat, eqF]; go_wp2; exact OpPost.some _ rfl rfl (Ext.refl _) rfl
    refine From.step (RdF B) (RdF.mono) ?_ ?_
    · intro w' hx; have h0bx := hx.cell h0b; have h1bx := hx.cell h1b; (try dsimp only [List.nil_append, List.cons_append]); dsimp only [DepsV, fat, eqF]; rintro _ rfl _ rfl _ rfl; skip;
      go_wp2_with (go_at_call 20; refine (HM2.out _ (RB.out.ext hx.box) (RK.out.ext hx.box)).mono ?_; rintro e w2 ⟨v, rfl, ho, hn⟩); exact OpPost.some _ rfl rfl hn (RdF.of ho)
    refine From.step (RdF A) (RdF.mono) ?_ ?_
    · intro w' hx; have h0bx := hx.cell h0b; have h1bx := hx.cell h1b; (try dsimp only [List.nil_append, List.cons_append]); dsimp only [DepsV, fat, eqF]; rintro v4 h4; go_wp2; exact OpPost.some _ rfl rfl (Ext.refl _) h4
    refine From.step (RdF B) (RdF.mono) ?_ ?_
    · intro w' hx; have h0bx := hx.cell h0b; have h1bx := hx.cell h1b; (try dsimp only [List.nil_append, List.cons_append]); dsimp only [DepsV, fat, eqF]; rintro v9 h9; go_wp2; exact OpPost.some _ rfl rfl (Ext.refl _) h9
    with_reducible refine From.fin ?_
    intro w' hx
    (try dsimp only [List.nil_append, List.cons_append]); dsimp only [EndV, eqF]; rintro _ rfl _ rfl _ rfl _ rfl v4 h4 _ rfl _ rfl _ rfl _ rfl v9 h9 v10_ h10_ v11_ h11_; simp only [Act.put, List.setIfInBounds_toArray, List.set_cons_zero, List.set_cons_succ]
    obtain ⟨aA, cA, rfl, _, rA⟩ := h10_
    obtain ⟨aB, cB, rfl, _, rB⟩ := h11_
    have rK := RK.out.ext hx.box
    replace hc := hx.cell hc
    replace X := X.trans hx.box
    clear h4 h9 h0 h1 h0b h1b hx
    go_wp2_with fail
    refine (HC1.out _ _ _ _ _ rA rB).mono ?_; rintro e w2 ⟨v, rfl, o4, x3⟩
    obtain ⟨rG_a, rG_c, rfl, _, _, rG⟩ := o4.form
    replace rA := rA.ext x3
    replace rB := rB.ext x3
    replace rK := rK.ext x3
    replace hc := x3.cell hc
    replace X := X.trans x3
    clear x3 o4
    go_wp2_with fail
    refine (HC2.out _ _ _ _ _ rA rB).mono ?_; rintro e w5 ⟨v, rfl, o7, x6⟩
    obtain ⟨rH_a, rH_c, rfl, _, _, rH⟩ := o7.form
    replace rA := rA.ext x6
    replace rB := rB.ext x6
    replace rK := rK.ext x6
    replace hc := x6.cell hc
    replace rG := rG.ext x6
    replace X := X.trans x6
    clear x6 o7
    go_wp2_with fail
    refine (same_c g _ _ _ _ _ _ rfl rG rH (by omega)).mono ?_; rintro e w8 ⟨rfl, x9⟩
    replace rA := rA.ext x9
    replace rB := rB.ext x9
    replace rK := rK.ext x9
    replace hc := x9.cell hc
    replace rG := rG.ext x9
    replace rH := rH.ext x9
    replace X := X.trans x9
    clear x9
    clear rH
    go_wp2_with fail
    refine (HR1.out _ _ _ _ _ rA rG).mono ?_; rintro e w51 ⟨v, u, rfl, o51, o52, x51⟩
    obtain ⟨q11, q12, rfl, _, _, q1⟩ := o51.form
    obtain ⟨q21, q22, rfl, _, q2⟩ := o52.formN 0 rfl
    replace rA := rA.ext x51
    replace rB := rB.ext x51
    replace rK := rK.ext x51
    replace hc := x51.cell hc
    replace rG := rG.ext x51
    replace X := X.trans x51
    clear o51 o52 x51 q1 q2
    go_wp2_with fail
    refine (HR2.out _ _ _ _ _ rB rG).mono ?_; rintro e w51 ⟨v, u, rfl, o51, o52, x51⟩
    obtain ⟨q31, q32, rfl, _, _, q3⟩ := o51.form
    obtain ⟨q41, q42, rfl, _, q4⟩ := o52.formN 0 rfl
    replace rA := rA.ext x51
    replace rB := rB.ext x51
    replace rK := rK.ext x51
    replace hc := x51.cell hc
    replace rG := rG.ext x51
    replace X := X.trans x51
    clear o51 o52 x51 q3 q4
    go_wp2_with fail
    refine (HD1.out _ rK (by omega)).mono ?_; rintro e w10 ⟨rfl, x11⟩
    replace rA := rA.ext x11
    replace rB := rB.ext x11
    replace rK := rK.ext x11
    replace hc := x11.cell hc
    replace rG := rG.ext x11
    replace X := X.trans x11
    clear x11
    rw [HZ.out]
    go_wp2_with fail
    go_ret
    exact ⟨rfl, X⟩
  have R3 := fun w' a' c' (h1 : Rd w' a' g) (h2 : Rd w' e k) => RDivMod_c p g k a' e c' f w' V.out h1 h2 (by omega) (by omega) (by rw [← HN.out]; omega)
  rw [e3 (by omega)] at R3
  have t2 : decide ((n : Int) - 1 < 0) = false := decide_eq_false (by omega)
  have HR3 := Lib.hid R3
  clear e3 R3
  go_enter Try.func10, Try.ntmps10
  go_wp2_with fail
  refine (awake_c _).mono ?_; rintro e w1 ⟨rfl, x0⟩
  replace h0 := x0.cell h0
  replace h1 := x0.cell h1
  have X := x0.box
  clear x0
  have ha := HA.out.ext X
  have hb := HB.out.ext X
  have hk := HK.out.ext X
  have RA := Lib.hid ha
  have RB := Lib.hid hb
  have RK := Lib.hid hk
  clear ha hb hk
  have hc : (w1.alloc (.cells #[.int .u64 p] 27)).cell? ⟨w1.heap.size, 0, none⟩ = some (.int .u64 p) := by simp
  have h0b := ((Ext.refl w1).alloc (.cells #[.int .u64 p] 27)).cell h0
  have h1b := ((Ext.refl w1).alloc (.cells #[.int .u64 p] 27)).cell h1
  go_wp2_with fail
  refine region_facts [[], [], [(1, 40)], [], [(0, 39), (2, 41), (3, 42)], [], [], [(6, 45)], [], [(5, 44), (7, 46), (8, 47)], [(4, 43)], [(9, 48)]] [some 39, some 40, some 41, some 42, some 43, some 44, some 45, some 46, some 47, some 48, some 8, some 9] (by kernel_rfl) (by kernel_rfl) ?_
  with_reducible apply From.eq
  · intro w' hx; have h0bx := hx.cell h0b; have h1bx := hx.cell h1b; (try dsimp only [List.nil_append, List.cons_append]); dsimp only [DepsV, fat, eqF]; go_wp2; exact OpPost.some _ rfl rfl (Ext.refl _) rfl
  with_reducible apply From.eq
  · intro w' hx; have h0bx := hx.cell h0b; have h1bx := hx.cell h1b; (try dsimp only [List.nil_append, List.cons_append]); dsimp only [DepsV, fat, eqF]; go_wp2; exact OpPost.some _ rfl rfl (Ext.refl _) rfl
  with_reducible apply From.eq
  · intro w' hx; have h0bx := hx.cell h0b; have h1bx := hx.cell h1b; (try dsimp only [List.nil_append, List.cons_append]); dsimp only [DepsV, fat, eqF]; rintro _ rfl; go_wp2; exact OpPost.some _ rfl rfl (Ext.refl _) rfl
  with_reducible apply From.eq
  · intro w' hx; have h0bx := hx.cell h0b; have h1bx := hx.cell h1b; (try dsimp only [List.nil_append, List.cons_append]); dsimp only [DepsV, fat, eqF]; go_wp2; exact OpPost.some _ rfl rfl (Ext.refl _) rfl
  refine From.step (RdF A) (RdF.mono) ?_ ?_
  · intro w' hx; have h0bx := hx.cell h0b; have h1bx := hx.cell h1b; (try dsimp only [List.nil_append, List.cons_append]); dsimp only [DepsV, fat, eqF]; rintro _ rfl _ rfl _ rfl; skip;
    go_wp2_with (go_at_call 20; refine (HM1.out _ (RA.out.ext hx.box) (RK.out.ext hx.box)).mono ?_; rintro e w2 ⟨v, rfl, ho, hn⟩); exact OpPost.some _ rfl rfl hn (RdF.of ho)
  with_reducible apply From.eq
  · intro w' hx; have h0bx := hx.cell h0b; have h1bx := hx.cell h1b; (try dsimp only [List.nil_append, List.cons_append]); dsimp only [DepsV, fat, eqF]; go_wp2; exact OpPost.some _ rfl rfl (Ext.refl _) rfl
  with_reducible apply From.eq
  · intro w' hx; have h0bx := hx.cell h0b; have h1bx := hx.cell h1b; (try dsimp only [List.nil_append, List.cons_append]); dsimp only [DepsV, fat, eqF]; go_wp2; exact OpPost.some _ rfl rfl (Ext.refl _) rfl
  with_reducible apply From.eq
  · intro w' hx; have h0bx := hx.cell h0b; have h1bx := hx.cell h1b; (try dsimp only [List.nil_append, List.cons_append]); dsimp only [DepsV, fat, eqF]; rintro _ rfl; go_wp2; exact OpPost.some _ rfl rfl (Ext.refl _) rfl
  with_reducible apply From.eq
  · intro w' hx; have h0bx := hx.cell h0b; have h1bx := hx.cell h1b; (try dsimp only [List.nil_append, List.cons_append]); dsimp only [DepsV, fat, eqF]; go_wp2; exact OpPost.some _ rfl rfl (Ext.refl _) rfl
  refine From.step (RdF B) (RdF.mono) ?_ ?_
  · intro w' hx; have h0bx := hx.cell h0b; have h1bx := hx.cell h1b; (try dsimp only [List.nil_append, List.cons_append]); dsimp only [DepsV, fat, eqF]; rintro _ rfl _ rfl _ rfl; skip;
    go_wp2_with (go_at_call 20; refine (HM2.out _ (RB.out.ext hx.box) (RK.out.ext hx.box)).mono ?_; rintro e w2 ⟨v, rfl, ho, hn⟩); exact OpPost.some _ rfl rfl hn (RdF.of ho)
  refine From.step (RdF A) (RdF.mono) ?_ ?_
  · intro w' hx; have h0bx := hx.cell h0b; have h1bx := hx.cell h1b; (try dsimp only [List.nil_append, List.cons_append]); dsimp only [DepsV, fat, eqF]; rintro v4 h4; go_wp2; exact OpPost.some _ rfl rfl (Ext.refl _) h4
  refine From.step (RdF B) (RdF.mono) ?_ ?_
  · intro w' hx; have h0bx := hx.cell h0b; have h1bx := hx.cell h1b; (try dsimp only [List.nil_append, List.cons_append]); dsimp only [DepsV, fat, eqF]; rintro v9 h9; go_wp2; exact OpPost.some _ rfl rfl (Ext.refl _) h9
  with_reducible refine From.fin ?_
  intro w' hx
  (try dsimp only [List.nil_append, List.cons_append]); dsimp only [EndV, eqF]; rintro _ rfl _ rfl _ rfl _ rfl v4 h4 _ rfl _ rfl _ rfl _ rfl v9 h9 v10_ h10_ v11_ h11_; simp only [Act.put, List.setIfInBounds_toArray, List.set_cons_zero, List.set_cons_succ]
  obtain ⟨aA, cA, rfl, _, rA⟩ := h10_
  obtain ⟨aB, cB, rfl, _, rB⟩ := h11_
  have rK := RK.out.ext hx.box
  replace hc := hx.cell hc
  replace X := X.trans hx.box
  clear h4 h9 h0 h1 h0b h1b hx
  go_wp2_with fail
  refine (HC1.out _ _ _ _ _ rA rB).mono ?_; rintro e w2 ⟨v, rfl, o4, x3⟩
  obtain ⟨rG_a, rG_c, rfl, _, _, rG⟩ := o4.form
  replace rA := rA.ext x3
  replace rB := rB.ext x3
  replace rK := rK.ext x3
  replace hc := x3.cell hc
  replace X := X.trans x3
  clear x3 o4
  go_wp2_with fail
  refine (HC2.out _ _ _ _ _ rA rB).mono ?_; rintro e w5 ⟨v, rfl, o7, x6⟩
  obtain ⟨rH_a, rH_c, rfl, _, _, rH⟩ := o7.form
  replace rA := rA.ext x6
  replace rB := rB.ext x6
  replace rK := rK.ext x6
  replace hc := x6.cell hc
  replace rG := rG.ext x6
  replace X := X.trans x6
  clear x6 o7
  go_wp2_with fail
  refine (same_c g _ _ _ _ _ _ rfl rG rH (by omega)).mono ?_; rintro e w8 ⟨rfl, x9⟩
  replace rA := rA.ext x9
  replace rB := rB.ext x9
  replace rK := rK.ext x9
  replace hc := x9.cell hc
  replace rG := rG.ext x9
  replace rH := rH.ext x9
  replace X := X.trans x9
  clear x9
  clear rH
  go_wp2_with fail
  refine (HR1.out _ _ _ _ _ rA rG).mono ?_; rintro e w51 ⟨v, u, rfl, o51, o52, x51⟩
  obtain ⟨q11, q12, rfl, _, _, q1⟩ := o51.form
  obtain ⟨q21, q22, rfl, _, q2⟩ := o52.formN 0 rfl
  replace rA := rA.ext x51
  replace rB := rB.ext x51
  replace rK := rK.ext x51
  replace hc := x51.cell hc
  replace rG := rG.ext x51
  replace X := X.trans x51
  clear o51 o52 x51 q1 q2
  go_wp2_with fail
  refine (HR2.out _ _ _ _ _ rB rG).mono ?_; rintro e w51 ⟨v, u, rfl, o51, o52, x51⟩
  obtain ⟨q31, q32, rfl, _, _, q3⟩ := o51.form
  obtain ⟨q41, q42, rfl, _, q4⟩ := o52.formN 0 rfl
  replace rA := rA.ext x51
  replace rB := rB.ext x51
  replace rK := rK.ext x51
  replace hc := x51.cell hc
  replace rG := rG.ext x51
  replace X := X.trans x51
  clear o51 o52 x51 q3 q4
  go_wp2_with fail
  refine (HD1.out _ rK (by omega)).mono ?_; rintro e w10 ⟨rfl, x11⟩
  replace rA := rA.ext x11
  replace rB := rB.ext x11
  replace rK := rK.ext x11
  replace hc := x11.cell hc
  replace rG := rG.ext x11
  replace X := X.trans x11
  clear x11
  go_wp2_with fail
  refine (HR3.out _ _ _ rG rK).mono ?_; rintro e w51 ⟨v, u, rfl, o51, o52, x51⟩
  obtain ⟨q51, q52, rfl, _, _, q5⟩ := o51.form
  obtain ⟨q61, q62, rfl, _, q6⟩ := o52.formN 0 rfl
  replace rA := rA.ext x51
  replace rB := rB.ext x51
  replace rK := rK.ext x51
  replace hc := x51.cell hc
  replace rG := rG.ext x51
  replace X := X.trans x51
  clear o51 o52 x51 q5 q6
  go_wp2_with fail
  go_ret
  exact ⟨rfl, X⟩
end Go.Proofs.Ytbklflhikcfceaa
