/- Walks of laws of layer 3. -/
import Derived.Test.YtbklflhikcfceaaLaw
import Derived.Test.YtbklflhikcfceaaMath1
namespace Go.Proofs.Ytbklflhikcfceaa
open Go.RowKit

set_option maxRecDepth 100000 in
set_option maxHeartbeats 2000000 in
theorem PolyEval_w (p : Nat) (l : List Nat) (a : Option Addr) (c x : Nat) (w : World) (ha : Rd w a l) :
    Calls Try.prog 9 #[.int .u64 p, .slice a l.length c, .int .u64 x] w fun e w' => e = .returned (.bool true) ∧ Ext w w' := by
  have HA := Lib.hid ha
  clear ha
  by_cases hf0 : l.length ≤ 24
  case neg =>
    have hd0 : decide ((l.length : Int) ≤ 24) = false := by simp; omega
    clear hf0
    go_enter Try.func9, Try.ntmps9
    go_wp2_with fail
    refine (awake_c _).mono ?_; rintro e w1 ⟨rfl, x2⟩
    have X := x2
    clear x2
    go_wp2_with fail
    refine (few_c l a c _).mono ?_; rintro e w3 ⟨rfl, rfl⟩
    go_wp2_with fail
    refine (awake_c _).mono ?_; rintro e w4 ⟨rfl, x5⟩
    replace X := X.trans x5
    clear x5
    go_wp2_with fail
    go_ret
    exact ⟨rfl, X⟩
  have hd0 : decide ((l.length : Int) ≤ 24) = true := by simp; omega
  have k3 := rmul_le p l l
  rw [← Q.mul_same] at k3
  have E1 := fun w' (h : Rd w' a l) => EvalP_c p l a c x w' h (by omega)
  have E2 := fun w' (h : Rd w' a l) => REval_c p l a c x w' h (by omega)
  rw [← Q.eval_same] at E2
  have M := fun w' (h1 : Rd w' a l) => MulP_c p l l a a c c w' h1 h1 (by omega) (by omega)
  have A := fun w' (h1 : Rd w' a l) => AddP_c p l l a a c c w' h1 h1 (by omega) (by omega)
  have E3 := fun w' a' c' (h : Rd w' a' (pmul p l l)) => EvalP_c p (pmul p l l) a' c' x w' h (by omega)
  rw [Q.eval_mul] at E3
  have k4 : (trimZ (addL p l l)).length ≤ 24 := Nat.le_trans (trimZ_le _) (by rw [addL_len]; omega)
  have E4 := fun w' a' c' (h : Rd w' a' (trimZ (addL p l l))) => EvalP_c p (trimZ (addL p l l)) a' c' x w' h (by omega)
  rw [Q.eval_add] at E4
  obtain ⟨v, hv0⟩ : ∃ v, v = horner p x l := ⟨_, rfl⟩
  obtain ⟨q, hq0⟩ : ∃ q, q = pmul p l l := ⟨_, rfl⟩
  obtain ⟨s, hs0⟩ : ∃ s, s = trimZ (addL p l l) := ⟨_, rfl⟩
  rw [← hv0] at E1 E2 E3 E4
  rw [← hq0] at M E3 k3
  rw [← hs0] at A E4 k4
  have HE1 := Lib.hid E1
  have HE2 := Lib.hid E2
  have HE3 := Lib.hid E3
  have HE4 := Lib.hid E4
  have HM := Lib.hid M
  have HAD := Lib.hid A
  clear E1 E2 E3 E4 M A hv0 hq0 hs0
  go_enter Try.func9, Try.ntmps9
  go_wp2_with fail
  refine (awake_c _).mono ?_; rintro e w1 ⟨rfl, x2⟩
  have X := x2
  clear x2
  go_wp2_with fail
  refine (few_c l a c _).mono ?_; rintro e w3 ⟨rfl, rfl⟩
  have ha := HA.out.ext X
  go_wp2_with fail
  refine (HE1.out _ (ha.ext ((Ext.refl _).alloc _))).mono ?_; rintro e w11 ⟨rfl, x11⟩
  have hc := x11.boxCell
  replace ha := ha.ext x11.box
  replace X := X.trans x11.box
  clear x11
  go_wp2_with fail
  have HA2 := Lib.hid ha
  clear ha
  refine region_facts [[], [], [], [], [(1, 24), (2, 25), (3, 26)], [(0, 23), (4, 27)], [(5, 28)], [(6, 29)], [(6, 29)], [(6, 29)], [(6, 29)], [(8, 31), (9, 32), (10, 33), (6, 29)], [(6, 29)], [(7, 30), (11, 34), (12, 35), (6, 29)], [(6, 29)], [(6, 29)], [(6, 29)], [(14, 37), (15, 38), (16, 39), (6, 29)], [(13, 36), (17, 40), (6, 29)], [(6, 29), (18, 41)], [(19, 42)], [(20, 43)], [(20, 43)], [(20, 43)], [(20, 43)], [(22, 45), (23, 46), (24, 47), (20, 43)], [(20, 43)], [(21, 44), (25, 48), (26, 49), (20, 43)], [(20, 43)], [(20, 43)], [(20, 43)], [(28, 51), (29, 52), (30, 53), (20, 43)], [(27, 50), (31, 54), (20, 43)], [(20, 43), (32, 55)], [(33, 56)]] [some 23, some 24, some 25, some 26, some 27, some 28, some 29, some 30, some 31, some 32, some 33, some 34, some 35, some 36, some 37, some 38, some 39, some 40, some 41, some 42, some 43, some 44, some 45, some 46, some 47, some 48, some 49, some 50, some 51, some 52, some 53, some 54, some 55, some 56, some 6] (by kernel_rfl) (by kernel_rfl) ?_
  with_reducible apply From.eq
  · intro w' hx; have hcx := hx.cell hc; (try dsimp only [List.nil_append, List.cons_append]); dsimp only [DepsV, fat, eqF]; go_wp2; exact OpPost.some _ rfl rfl (Ext.refl _) rfl
  with_reducible apply From.eq
  · intro w' hx; have hcx := hx.cell hc; (try dsimp only [List.nil_append, List.cons_append]); dsimp only [DepsV, fat, eqF]; go_wp2; exact OpPost.some _ rfl rfl (Ext.refl _) rfl
  with_reducible apply From.eq
  · intro w' hx; have hcx := hx.cell hc; (try dsimp only [List.nil_append, List.cons_append]); dsimp only [DepsV, fat, eqF]; go_wp2; exact OpPost.some _ rfl rfl (Ext.refl _) rfl
  with_reducible apply From.eq
  · intro w' hx; have hcx := hx.cell hc; (try dsimp only [List.nil_append, List.cons_append]); dsimp only [DepsV, fat, eqF]; go_wp2; exact OpPost.some _ rfl rfl (Ext.refl _) rfl
  with_reducible apply From.eq
  · intro w' hx; have hcx := hx.cell hc; (try dsimp only [List.nil_append, List.cons_append]); dsimp only [DepsV, fat, eqF]; rintro _ rfl _ rfl _ rfl; go_wp2_with (go_at_call 24; refine (HE2.out _ (HA2.out.ext hx)).mono ?_; rintro e w2 ⟨rfl, hb2⟩); exact OpPost.some _ rfl rfl hb2 rfl
  with_reducible apply From.eq
  · intro w' hx; have hcx := hx.cell hc; (try dsimp only [List.nil_append, List.cons_append]); dsimp only [DepsV, fat, eqF]; rintro _ rfl _ rfl; go_wp2; exact OpPost.some _ rfl rfl (Ext.refl _) rfl
  with_reducible apply From.eq
  · intro w' hx; have hcx := hx.cell hc; (try dsimp only [List.nil_append, List.cons_append]); dsimp only [DepsV, fat, eqF]; rintro _ rfl; go_wp2; exact OpPost.some _ rfl rfl (Ext.refl _) rfl
  with_reducible apply From.eq
  · intro w' hx; have hcx := hx.cell hc; (try dsimp only [List.nil_append, List.cons_append]); dsimp only [DepsV, fat, eqF]; rintro _ rfl; go_wp2; exact OpPost.some _ rfl rfl (Ext.refl _) rfl
  with_reducible apply From.eq
  · intro w' hx; have hcx := hx.cell hc; (try dsimp only [List.nil_append, List.cons_append]); dsimp only [DepsV, fat, eqF]; rintro _ rfl; go_wp2; exact OpPost.some _ rfl rfl (Ext.refl _) rfl
  with_reducible apply From.eq
  · intro w' hx; have hcx := hx.cell hc; (try dsimp only [List.nil_append, List.cons_append]); dsimp only [DepsV, fat, eqF]; rintro _ rfl; go_wp2; exact OpPost.some _ rfl rfl (Ext.refl _) rfl
  with_reducible apply From.eq
  · intro w' hx; have hcx := hx.cell hc; (try dsimp only [List.nil_append, List.cons_append]); dsimp only [DepsV, fat, eqF]; rintro _ rfl; go_wp2; exact OpPost.some _ rfl rfl (Ext.refl _) rfl
  refine From.step (RdF q) (RdF.mono) ?_ ?_
  · intro w' hx; have hcx := hx.cell hc; (try dsimp only [List.nil_append, List.cons_append]); dsimp only [DepsV, fat, eqF]; rintro _ rfl _ rfl _ rfl _ rfl; skip;
    go_wp2_with (go_at_call 33; refine (HM.out _ (HA2.out.ext hx)).mono ?_; rintro e w2 ⟨v, rfl, ho, hn⟩); exact OpPost.some _ rfl rfl hn (RdF.of ho)
  with_reducible apply From.eq
  · intro w' hx; have hcx := hx.cell hc; (try dsimp only [List.nil_append, List.cons_append]); dsimp only [DepsV, fat, eqF]; rintro _ rfl; go_wp2; exact OpPost.some _ rfl rfl (Ext.refl _) rfl
  -- 13: t36
  apply From.eq
  · intro w' hx; have hcx := hx.cell hc; (try dsimp only [List.nil_append, List.cons_append]); dsimp only [DepsV, fat, eqF]; rintro _ rfl; rintro v11 h11; rintro _ rfl; rintro _ rfl
    obtain ⟨aq, cq, rfl, _, hrq⟩ := h11
    go_wp2_with (go_at_call 30; refine (HE3.out _ _ _ hrq).mono ?_; rintro e w2 ⟨rfl, hb2⟩); exact OpPost.some _ rfl rfl hb2 rfl
  with_reducible apply From.eq
  · intro w' hx; have hcx := hx.cell hc; (try dsimp only [List.nil_append, List.cons_append]); dsimp only [DepsV, fat, eqF]; rintro _ rfl; go_wp2; exact OpPost.some _ rfl rfl (Ext.refl _) rfl
  with_reducible apply From.eq
  · intro w' hx; have hcx := hx.cell hc; (try dsimp only [List.nil_append, List.cons_append]); dsimp only [DepsV, fat, eqF]; rintro _ rfl; go_wp2; exact OpPost.some _ rfl rfl (Ext.refl _) rfl
  with_reducible apply From.eq
  · intro w' hx; have hcx := hx.cell hc; (try dsimp only [List.nil_append, List.cons_append]); dsimp only [DepsV, fat, eqF]; rintro _ rfl; go_wp2; exact OpPost.some _ rfl rfl (Ext.refl _) rfl
  with_reducible apply From.eq
  · intro w' hx; have hcx := hx.cell hc; (try dsimp only [List.nil_append, List.cons_append]); dsimp only [DepsV, fat, eqF]; rintro _ rfl _ rfl _ rfl _ rfl; go_wp2_with (go_at_call 34; refine (RMul_c _ _ _ _).mono ?_; rintro e w2 ⟨rfl, hb2⟩); exact OpPost.some _ rfl rfl hb2 rfl
  with_reducible apply From.eq
  · intro w' hx; have hcx := hx.cell hc; (try dsimp only [List.nil_append, List.cons_append]); dsimp only [DepsV, fat, eqF]; rintro _ rfl _ rfl _ rfl; go_wp2; exact OpPost.some _ rfl rfl (Ext.refl _) rfl
  with_reducible apply From.eq
  · intro w' hx; have hcx := hx.cell hc; (try dsimp only [List.nil_append, List.cons_append]); dsimp only [DepsV, fat, eqF]; rintro _ rfl _ rfl; go_wp2; exact OpPost.some _ rfl rfl (Ext.refl _) rfl
  with_reducible apply From.eq
  · intro w' hx; have hcx := hx.cell hc; (try dsimp only [List.nil_append, List.cons_append]); dsimp only [DepsV, fat, eqF]; rintro _ rfl; go_wp2; exact OpPost.some _ rfl rfl (Ext.refl _) rfl
  with_reducible apply From.eq
  · intro w' hx; have hcx := hx.cell hc; (try dsimp only [List.nil_append, List.cons_append]); dsimp only [DepsV, fat, eqF]; rintro _ rfl; go_wp2; exact OpPost.some _ rfl rfl (Ext.refl _) rfl
  with_reducible apply From.eq
  · intro w' hx; have hcx := hx.cell hc; (try dsimp only [List.nil_append, List.cons_append]); dsimp only [DepsV, fat, eqF]; rintro _ rfl; go_wp2; exact OpPost.some _ rfl rfl (Ext.refl _) rfl
  with_reducible apply From.eq
  · intro w' hx; have hcx := hx.cell hc; (try dsimp only [List.nil_append, List.cons_append]); dsimp only [DepsV, fat, eqF]; rintro _ rfl; go_wp2; exact OpPost.some _ rfl rfl (Ext.refl _) rfl
  with_reducible apply From.eq
  · intro w' hx; have hcx := hx.cell hc; (try dsimp only [List.nil_append, List.cons_append]); dsimp only [DepsV, fat, eqF]; rintro _ rfl; go_wp2; exact OpPost.some _ rfl rfl (Ext.refl _) rfl
  refine From.step (RdF s) (RdF.mono) ?_ ?_
  · intro w' hx; have hcx := hx.cell hc; (try dsimp only [List.nil_append, List.cons_append]); dsimp only [DepsV, fat, eqF]; rintro _ rfl _ rfl _ rfl _ rfl; skip;
    go_wp2_with (go_at_call 35; refine (HAD.out _ (HA2.out.ext hx)).mono ?_; rintro e w2 ⟨v, rfl, ho, hn⟩); exact OpPost.some _ rfl rfl hn (RdF.of ho)
  with_reducible apply From.eq
  · intro w' hx; have hcx := hx.cell hc; (try dsimp only [List.nil_append, List.cons_append]); dsimp only [DepsV, fat, eqF]; rintro _ rfl; go_wp2; exact OpPost.some _ rfl rfl (Ext.refl _) rfl
  -- 27: t50
  apply From.eq
  · intro w' hx; have hcx := hx.cell hc; (try dsimp only [List.nil_append, List.cons_append]); dsimp only [DepsV, fat, eqF]; rintro _ rfl; rintro v25 h25; rintro _ rfl; rintro _ rfl
    obtain ⟨aq, cq, rfl, _, hrq⟩ := h25
    go_wp2_with (go_at_call 30; refine (HE4.out _ _ _ hrq).mono ?_; rintro e w2 ⟨rfl, hb2⟩); exact OpPost.some _ rfl rfl hb2 rfl
  with_reducible apply From.eq
  · intro w' hx; have hcx := hx.cell hc; (try dsimp only [List.nil_append, List.cons_append]); dsimp only [DepsV, fat, eqF]; rintro _ rfl; go_wp2; exact OpPost.some _ rfl rfl (Ext.refl _) rfl
  with_reducible apply From.eq
  · intro w' hx; have hcx := hx.cell hc; (try dsimp only [List.nil_append, List.cons_append]); dsimp only [DepsV, fat, eqF]; rintro _ rfl; go_wp2; exact OpPost.some _ rfl rfl (Ext.refl _) rfl
  with_reducible apply From.eq
  · intro w' hx; have hcx := hx.cell hc; (try dsimp only [List.nil_append, List.cons_append]); dsimp only [DepsV, fat, eqF]; rintro _ rfl; go_wp2; exact OpPost.some _ rfl rfl (Ext.refl _) rfl
  with_reducible apply From.eq
  · intro w' hx; have hcx := hx.cell hc; (try dsimp only [List.nil_append, List.cons_append]); dsimp only [DepsV, fat, eqF]; rintro _ rfl _ rfl _ rfl _ rfl; go_wp2_with (go_at_call 36; refine (RAdd_c _ _ _ _).mono ?_; rintro e w2 ⟨rfl, hb2⟩); exact OpPost.some _ rfl rfl hb2 rfl
  with_reducible apply From.eq
  · intro w' hx; have hcx := hx.cell hc; (try dsimp only [List.nil_append, List.cons_append]); dsimp only [DepsV, fat, eqF]; rintro _ rfl _ rfl _ rfl; go_wp2; exact OpPost.some _ rfl rfl (Ext.refl _) rfl
  with_reducible apply From.eq
  · intro w' hx; have hcx := hx.cell hc; (try dsimp only [List.nil_append, List.cons_append]); dsimp only [DepsV, fat, eqF]; rintro _ rfl _ rfl; go_wp2; exact OpPost.some _ rfl rfl (Ext.refl _) rfl
  with_reducible apply From.eq
  · intro w' hx; have hcx := hx.cell hc; (try dsimp only [List.nil_append, List.cons_append]); dsimp only [DepsV, fat, eqF]; rintro _ rfl; go_wp2; exact OpPost.some _ rfl rfl (Ext.refl _) rfl
  with_reducible refine From.fin ?_
  intro w' hx
  (try dsimp only [List.nil_append, List.cons_append]); dsimp only [EndV, eqF]; rintro _ rfl _ rfl _ rfl _ rfl _ rfl _ rfl _ rfl _ rfl _ rfl _ rfl _ rfl v11 h11 _ rfl _ rfl _ rfl _ rfl _ rfl _ rfl _ rfl _ rfl _ rfl _ rfl _ rfl _ rfl _ rfl v25 h25 _ rfl _ rfl _ rfl _ rfl _ rfl _ rfl _ rfl _ rfl _ rfl; simp only [Act.put, List.setIfInBounds_toArray, List.set_cons_zero, List.set_cons_succ]
  go_wp2
  go_ret
  exact ⟨rfl, X.trans hx⟩
end Go.Proofs.Ytbklflhikcfceaa
