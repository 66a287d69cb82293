/- Walks of laws of layer 3. -/
import Derived.Test.YtbklflhikcfceaaLaw
import Derived.Test.YtbklflhikcfceaaMath1
namespace Go.Proofs.Ytbklflhikcfceaa
open Go.RowKit

set_option maxRecDepth 100000 in
set_option maxHeartbeats 2000000 in
theorem PolyMul_w (p : Nat) (l m : List Nat) (a b : Option Addr) (c d : Nat) (w : World) (ha : Rd w a l) (hb : Rd w b m) :
    Calls Try.prog 8 #[.int .u64 p, .slice a l.length c, .slice b m.length d] w fun e w' => e = .returned (.bool true) ∧ Ext w w' := by
  have HA := Lib.hid ha
  have HB := Lib.hid hb
  clear ha hb
  by_cases hf0 : l.length ≤ 24
  case neg =>
    have hd0 : decide ((l.length : Int) ≤ 24) = false := by simp; omega
    clear hf0
    go_enter Try.func8, Try.ntmps8
    go_wp2_with fail
    refine (awake_c _).mono ?_; rintro e w1 ⟨rfl, x2⟩
    have X := x2
    clear x2
    go_wp2_with fail
    refine (few_c l a c _).mono ?_; rintro e w3 ⟨rfl, rfl⟩
    go_wp2_with fail
    refine (awake_c _).mono ?_; rintro e w4 ⟨rfl, x5⟩
    replace X := X.trans x5
    clear x5
    go_wp2_with fail
    go_ret
    exact ⟨rfl, X⟩
  have hd0 : decide ((l.length : Int) ≤ 24) = true := by simp; omega
  by_cases hf1 : m.length ≤ 24
  case neg =>
    have hd1 : decide ((m.length : Int) ≤ 24) = false := by simp; omega
    clear hf1
    go_enter Try.func8, Try.ntmps8
    go_wp2_with fail
    refine (awake_c _).mono ?_; rintro e w1 ⟨rfl, x2⟩
    have X := x2
    clear x2
    go_wp2_with fail
    refine (few_c l a c _).mono ?_; rintro e w3 ⟨rfl, rfl⟩
    go_wp2_with fail
    refine (few_c m b d _).mono ?_; rintro e w4 ⟨rfl, rfl⟩
    go_wp2_with fail
    refine (awake_c _).mono ?_; rintro e w5 ⟨rfl, x6⟩
    replace X := X.trans x6
    clear x6
    go_wp2_with fail
    go_ret
    exact ⟨rfl, X⟩
  have hd1 : decide ((m.length : Int) ≤ 24) = true := by simp; omega
  have D1 := fun w' (h : Rd w' a l) => RDegree_c p l a c w' h (by omega)
  have D2 := fun w' (h : Rd w' b m) => RDegree_c p m b d w' h (by omega)
  have D3 := fun w' a' c' (h : Rd w' a' (pmul p l m)) (hk : (pmul p l m).length ≤ 1000000) => Degree_c p (pmul p l m) a' c' w' h hk
  have hz : (trimP p l).length = 0 ∨ (trimP p m).length = 0 → pmul p l m = [] := fun h => by unfold pmul; rw [if_pos h]
  have hdg : (trimP p l).length ≠ 0 → (trimP p m).length ≠ 0 → (trimP p (pmul p l m)).length + 1 = (trimP p l).length + (trimP p m).length := fun h1 h2 => by
    cases hv : vld p
    · rw [Q.inv_zero hv] at h1; simp at h1
    · exact Q.mul_deg hv l m (by omega) (by omega)
  have k1 := trimP_le p l
  have k2 := trimP_le p m
  have k3 := rmul_le p l m
  have hcm := Q.mul_comm' p m l
  rw [← Q.mul_same] at k3
  have M := fun w' (h1 : Rd w' a l) (h2 : Rd w' b m) => MulP_c p l m a b c d w' h1 h2 (by omega) (by omega)
  have M2 := fun w' (h1 : Rd w' b m) (h2 : Rd w' a l) => MulP_c p m l b a d c w' h1 h2 (by omega) (by omega)
  have M3 := fun w' (h1 : Rd w' a l) (h2 : Rd w' b m) => RMulP_c p l m a b c d w' h1 h2 (by omega) (by omega)
  rw [← Q.mul_same] at M3
  rw [hcm] at M2
  obtain ⟨n1, h1⟩ : ∃ n1, n1 = (trimP p l).length := ⟨_, rfl⟩
  obtain ⟨n2, h2⟩ : ∃ n2, n2 = (trimP p m).length := ⟨_, rfl⟩
  obtain ⟨n3, h3⟩ : ∃ n3, n3 = (trimP p (pmul p l m)).length := ⟨_, rfl⟩
  rw [← h1] at D1 hz hdg k1
  rw [← h2] at D2 hz hdg k2
  rw [← h3] at D3 hdg
  obtain ⟨q, hq⟩ : ∃ q, q = pmul p l m := ⟨_, rfl⟩
  rw [← hq] at D3 hz k3 M M2 M3
  have HD1 := Lib.hid D1
  have HD2 := Lib.hid D2
  have HD3 := Lib.hid D3
  have HM := Lib.hid M
  have HM2 := Lib.hid M2
  have HM3 := Lib.hid M3
  have HZ := Lib.hid hz
  have HDG := Lib.hid hdg
  clear D1 D2 D3 hz hdg M M2 M3 h1 h2 h3 hq hcm
  by_cases hn1 : n1 = 0
  case pos =>
    have hq0 := HZ.out (.inl hn1)
    subst hn1
    go_enter Try.func8, Try.ntmps8
    go_wp2_with fail
    refine (awake_c _).mono ?_; rintro e w1 ⟨rfl, x2⟩
    have X := x2
    clear x2
    go_wp2_with fail
    refine (few_c l a c _).mono ?_; rintro e w3 ⟨rfl, rfl⟩
    go_wp2_with fail
    refine (few_c m b d _).mono ?_; rintro e w4 ⟨rfl, rfl⟩
    have ha := HA.out.ext X
    have hb := HB.out.ext X
    go_wp2_with fail
    refine (HM.out _ (ha.ext ((Ext.refl _).alloc _)) (hb.ext ((Ext.refl _).alloc _))).mono ?_; rintro e w11 ⟨v, rfl, o11, x11⟩
    rw [hq0] at o11
    obtain ⟨r1_a, r1_c, rfl, _, r1⟩ := o11.formN 0 rfl
    have hc := x11.boxCell
    replace ha := ha.ext x11.box
    replace hb := hb.ext x11.box
    replace X := X.trans x11.box
    clear o11 x11
    go_wp2_with fail
    refine (HD1.out _ ha).mono ?_; rintro e w5 ⟨rfl, x6⟩
    replace ha := ha.ext x6
    replace hb := hb.ext x6
    replace r1 := r1.ext x6
    replace hc := x6.cell hc
    replace X := X.trans x6
    clear x6
    go_wp2_with fail
    refine (HD2.out _ hb).mono ?_; rintro e w7 ⟨rfl, x8⟩
    replace ha := ha.ext x8
    replace hb := hb.ext x8
    replace r1 := r1.ext x8
    replace hc := x8.cell hc
    replace X := X.trans x8
    clear x8
    go_wp2_with fail
    go_ret
    exact ⟨rfl, X⟩
  have j1 : 1 ≤ n1 := by omega
  by_cases hn2 : n2 = 0
  case pos =>
    have hq0 := HZ.out (.inr hn2)
    subst hn2
    go_enter Try.func8, Try.ntmps8
    go_wp2_with fail
    refine (awake_c _).mono ?_; rintro e w1 ⟨rfl, x2⟩
    have X := x2
    clear x2
    go_wp2_with fail
    refine (few_c l a c _).mono ?_; rintro e w3 ⟨rfl, rfl⟩
    go_wp2_with fail
    refine (few_c m b d _).mono ?_; rintro e w4 ⟨rfl, rfl⟩
    have ha := HA.out.ext X
    have hb := HB.out.ext X
    go_wp2_with fail
    refine (HM.out _ (ha.ext ((Ext.refl _).alloc _)) (hb.ext ((Ext.refl _).alloc _))).mono ?_; rintro e w11 ⟨v, rfl, o11, x11⟩
    rw [hq0] at o11
    obtain ⟨r1_a, r1_c, rfl, _, r1⟩ := o11.formN 0 rfl
    have hc := x11.boxCell
    replace ha := ha.ext x11.box
    replace hb := hb.ext x11.box
    replace X := X.trans x11.box
    clear o11 x11
    go_wp2_with fail
    refine (HD1.out _ ha).mono ?_; rintro e w5 ⟨rfl, x6⟩
    replace ha := ha.ext x6
    replace hb := hb.ext x6
    replace r1 := r1.ext x6
    replace hc := x6.cell hc
    replace X := X.trans x6
    clear x6
    go_wp2_with fail
    refine (HD2.out _ hb).mono ?_; rintro e w7 ⟨rfl, x8⟩
    replace ha := ha.ext x8
    replace hb := hb.ext x8
    replace r1 := r1.ext x8
    replace hc := x8.cell hc
    replace X := X.trans x8
    clear x8
    go_wp2_with fail
    go_ret
    exact ⟨rfl, X⟩
  have j2 : 1 ≤ n2 := by omega
  have j3 := HDG.out hn1 hn2
  have j4 : n3 + 1 ≤ n1 + n2 := by omega
  have j5 : n1 + n2 ≤ n3 + 1 := by omega
  have j6 : ((n3 : Int) - 1 == (n1 : Int) - 1 + ((n2 : Int) - 1)) = true := by rw [beq_iff_eq]; omega
  clear hn1 hn2 j3
  go_enter Try.func8, Try.ntmps8
  go_wp2_with fail
  refine (awake_c _).mono ?_; rintro e w1 ⟨rfl, x2⟩
  have X := x2
  clear x2
  go_wp2_with fail
  refine (few_c l a c _).mono ?_; rintro e w3 ⟨rfl, rfl⟩
  go_wp2_with fail
  refine (few_c m b d _).mono ?_; rintro e w4 ⟨rfl, rfl⟩
  have ha := HA.out.ext X
  have hb := HB.out.ext X
  go_wp2_with fail
  refine (HM.out _ (ha.ext ((Ext.refl _).alloc _)) (hb.ext ((Ext.refl _).alloc _))).mono ?_; rintro e w11 ⟨v, rfl, o11, x11⟩
  obtain ⟨r1_a, r1_c, rfl, _, _, r1⟩ := o11.form
  have hc := x11.boxCell
  replace ha := ha.ext x11.box
  replace hb := hb.ext x11.box
  replace X := X.trans x11.box
  clear o11 x11
  go_wp2_with fail
  refine (HD1.out _ ha).mono ?_; rintro e w5 ⟨rfl, x6⟩
  replace ha := ha.ext x6
  replace hb := hb.ext x6
  replace r1 := r1.ext x6
  replace hc := x6.cell hc
  replace X := X.trans x6
  clear x6
  go_wp2_with fail
  refine (HD2.out _ hb).mono ?_; rintro e w7 ⟨rfl, x8⟩
  replace ha := ha.ext x8
  replace hb := hb.ext x8
  replace r1 := r1.ext x8
  replace hc := x8.cell hc
  replace X := X.trans x8
  clear x8
  go_wp2_with fail
  refine (HM3.out _ ha hb).mono ?_; rintro e w9 ⟨v, rfl, o11, x10⟩
  obtain ⟨r2_a, r2_c, rfl, _, _, r2⟩ := o11.form
  replace ha := ha.ext x10
  replace hb := hb.ext x10
  replace r1 := r1.ext x10
  replace hc := x10.cell hc
  replace X := X.trans x10
  clear x10 o11
  go_wp2_with fail
  refine (same_c q _ _ _ _ _ _ rfl r1 r2 (by omega)).mono ?_; rintro e w12 ⟨rfl, x13⟩
  replace ha := ha.ext x13
  replace hb := hb.ext x13
  replace r1 := r1.ext x13
  replace hc := x13.cell hc
  replace r2 := r2.ext x13
  replace X := X.trans x13
  clear x13
  clear r2
  go_wp2_with fail
  refine (HM2.out _ hb ha).mono ?_; rintro e w14 ⟨v, rfl, o16, x15⟩
  obtain ⟨r3_a, r3_c, rfl, _, _, r3⟩ := o16.form
  replace ha := ha.ext x15
  replace hb := hb.ext x15
  replace r1 := r1.ext x15
  replace hc := x15.cell hc
  replace X := X.trans x15
  clear x15 o16
  go_wp2_with fail
  refine (same_c q _ _ _ _ _ _ rfl r3 r1 (by omega)).mono ?_; rintro e w17 ⟨rfl, x18⟩
  replace ha := ha.ext x18
  replace hb := hb.ext x18
  replace r1 := r1.ext x18
  replace hc := x18.cell hc
  replace r3 := r3.ext x18
  replace X := X.trans x18
  clear x18
  clear r3
  go_wp2_with fail
  refine (HD3.out _ _ _ r1 (by omega)).mono ?_; rintro e w19 ⟨rfl, x20⟩
  replace ha := ha.ext x20
  replace hb := hb.ext x20
  replace r1 := r1.ext x20
  replace hc := x20.cell hc
  replace X := X.trans x20
  clear x20
  go_wp2_with fail
  go_ret
  exact ⟨rfl, X⟩
end Go.Proofs.Ytbklflhikcfceaa
