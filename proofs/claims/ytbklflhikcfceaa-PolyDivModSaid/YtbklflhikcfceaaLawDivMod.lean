/- Walks of laws of layer 3. -/
import Derived.Test.YtbklflhikcfceaaLaw
import Derived.Test.YtbklflhikcfceaaRef5
namespace Go.Proofs.Ytbklflhikcfceaa
open Go.RowKit

theorem DivMod_ok (p : Nat) (l m : List Nat) (a b : Option Addr) (c d : Nat) (w : World) (hv : vld p = true) (ha : Rd w a l) (hb : Rd w b m) (hl : l.length ≤ 24) (hm : m.length ≤ 24) (h0 : 0 < (trimP p m).length) :
    Calls Try.prog 14 #[.agg #[.int .u64 p], .slice a l.length c, .slice b m.length d] w (DMPost w (pquo p l m) (prem p l m) 0) := by
  by_cases h : (trimP p l).length < (trimP p m).length
  · have := DivMod_short p l m a b c d w hv ha hb (by omega) (by omega) (by omega) h
    have e1 : pquo p l m = [] := by unfold pquo; rw [if_pos h]
    have e2 : prem p l m = trimP p l := by unfold prem; rw [if_pos h]
    rw [e1, e2]; exact this
  · exact DivMod_long p l m a b c d w hv ha hb (by omega) (by omega) (by omega) (by omega)

set_option maxRecDepth 100000 in
set_option maxHeartbeats 2000000 in
theorem PolyDivMod_w (p : Nat) (l m : List Nat) (a b : Option Addr) (c d : Nat) (w : World) (ha : Rd w a l) (hb : Rd w b m) :
    Calls Try.prog 3 #[.int .u64 p, .slice a l.length c, .slice b m.length d] w fun e w' => e = .returned (.bool true) ∧ Ext w w' := by
  have HA := Lib.hid ha
  have HB := Lib.hid hb
  clear ha hb
  by_cases hf0 : l.length ≤ 24
  case neg =>
    have hd0 : decide ((l.length : Int) ≤ 24) = false := by simp; omega
    clear hf0
    go_enter Try.func3, Try.ntmps3
    go_wp2_with fail
    refine (awake_c _).mono ?_; rintro e w1 ⟨rfl, x2⟩
    have X := x2
    clear x2
    go_wp2_with fail
    refine (few_c l a c _).mono ?_; rintro e w3 ⟨rfl, rfl⟩
    go_wp2_with fail
    refine (awake_c _).mono ?_; rintro e w4 ⟨rfl, x5⟩
    replace X := X.trans x5
    clear x5
    go_wp2_with fail
    go_ret
    exact ⟨rfl, X⟩
  have hd0 : decide ((l.length : Int) ≤ 24) = true := by simp; omega
  by_cases hf1 : m.length ≤ 24
  case neg =>
    have hd1 : decide ((m.length : Int) ≤ 24) = false := by simp; omega
    clear hf1
    go_enter Try.func3, Try.ntmps3
    go_wp2_with fail
    refine (awake_c _).mono ?_; rintro e w1 ⟨rfl, x2⟩
    have X := x2
    clear x2
    go_wp2_with fail
    refine (few_c l a c _).mono ?_; rintro e w3 ⟨rfl, rfl⟩
    go_wp2_with fail
    refine (few_c m b d _).mono ?_; rintro e w4 ⟨rfl, rfl⟩
    go_wp2_with fail
    refine (awake_c _).mono ?_; rintro e w5 ⟨rfl, x6⟩
    replace X := X.trans x6
    clear x6
    go_wp2_with fail
    go_ret
    exact ⟨rfl, X⟩
  have hd1 : decide ((m.length : Int) ≤ 24) = true := by simp; omega
  cases hv : vld p
  case false =>
    have V := Lib.hid hv
    clear hv
    go_enter Try.func3, Try.ntmps3
    go_wp2_with fail
    refine (awake_c _).mono ?_; rintro e w1 ⟨rfl, x2⟩
    have X := x2
    clear x2
    go_wp2_with fail
    refine (few_c l a c _).mono ?_; rintro e w3 ⟨rfl, rfl⟩
    go_wp2_with fail
    refine (few_c m b d _).mono ?_; rintro e w4 ⟨rfl, rfl⟩
    have ha := HA.out.ext X
    have hb := HB.out.ext X
    go_wp2_with fail
    refine (DivMod_inv p l m a b c d _ V.out).mono ?_; rintro e w21 ⟨v, u, rfl, o21, o22, x21⟩
    obtain ⟨a1, c1, rfl, _, r1⟩ := o21.formN 0 rfl
    obtain ⟨a2, c2, rfl, _, r2⟩ := o22.formN 0 rfl
    replace ha := ha.ext x21.box
    replace hb := hb.ext x21.box
    replace X := X.trans x21.box
    clear o21 o22 x21
    go_wp2_with fail
    refine (RValid_c _ _).mono ?_; rintro e w5 ⟨rfl, x6⟩
    replace ha := ha.ext x6
    replace hb := hb.ext x6
    replace r1 := r1.ext x6
    replace r2 := r2.ext x6
    replace X := X.trans x6
    clear x6
    rw [V.out]
    go_wp2_with fail
    go_ret
    exact ⟨rfl, X⟩
  have V := Lib.hid hv
  clear hv
  by_cases h0 : (trimP p m).length = 0
  case pos =>
    have H0 := Lib.hid h0
    clear h0
    go_enter Try.func3, Try.ntmps3
    go_wp2_with fail
    refine (awake_c _).mono ?_; rintro e w1 ⟨rfl, x2⟩
    have X := x2
    clear x2
    go_wp2_with fail
    refine (few_c l a c _).mono ?_; rintro e w3 ⟨rfl, rfl⟩
    go_wp2_with fail
    refine (few_c m b d _).mono ?_; rintro e w4 ⟨rfl, rfl⟩
    have ha := HA.out.ext X
    have hb := HB.out.ext X
    go_wp2_with fail
    refine (DivMod_zero p l m a b c d _ V.out (hb.ext ((Ext.refl _).alloc _)) (by omega) H0.out).mono ?_; rintro e w21 ⟨v, u, rfl, o21, o22, x21⟩
    obtain ⟨a1, c1, rfl, _, r1⟩ := o21.formN 0 rfl
    obtain ⟨a2, c2, rfl, _, r2⟩ := o22.formN 0 rfl
    replace ha := ha.ext x21.box
    replace hb := hb.ext x21.box
    replace X := X.trans x21.box
    clear o21 o22 x21
    go_wp2_with fail
    refine (RValid_c _ _).mono ?_; rintro e w5 ⟨rfl, x6⟩
    replace ha := ha.ext x6
    replace hb := hb.ext x6
    replace r1 := r1.ext x6
    replace r2 := r2.ext x6
    replace X := X.trans x6
    clear x6
    rw [V.out]
    go_wp2_with fail
    refine (RDegree_c p m b d _ hb (by omega)).mono ?_; rintro e w7 ⟨rfl, x8⟩
    replace ha := ha.ext x8
    replace hb := hb.ext x8
    replace r1 := r1.ext x8
    replace r2 := r2.ext x8
    replace X := X.trans x8
    clear x8
    rw [H0.out]
    go_wp2_with fail
    go_ret
    exact ⟨rfl, X⟩
  have hz : decide (((trimP p m).length : Int) - 1 < 0) = false := by simp; omega
  have DM := fun w' (h1 : Rd w' a l) (h2 : Rd w' b m) => DivMod_ok p l m a b c d w' V.out h1 h2 hf0 hf1 (by omega)
  have RD := fun w' (h1 : Rd w' a l) (h2 : Rd w' b m) => RDivMod_c p l m a b c d w' V.out h1 h2 (by omega) (by omega) (by omega)
  have hback := Q.div_back V.out l m (by omega)
  have D1 := fun w' (h : Rd w' b m) => RDegree_c p m b d w' h (by omega)
  have T1 := fun w' (h : Rd w' a l) => RTrim_c p l a c w' h (by omega)
  obtain ⟨⟨_, _, kq, kr, _⟩, _⟩ := Q.quo_spec V.out l m (by omega)
  have kl := trimP_le p l
  obtain ⟨q, hq⟩ : ∃ q, q = pquo p l m := ⟨_, rfl⟩
  obtain ⟨r, hr⟩ : ∃ r, r = prem p l m := ⟨_, rfl⟩
  obtain ⟨n2, hn2⟩ : ∃ n, n = (trimP p m).length := ⟨_, rfl⟩
  obtain ⟨A, hA⟩ : ∃ A, A = trimP p l := ⟨_, rfl⟩
  rw [← hq, ← hr] at DM RD hback
  rw [← hq] at kq
  rw [← hr] at kr
  rw [← hA] at hback T1 kq kr kl
  rw [← hn2] at D1 hz
  have km := rmul_le p q m
  have M1 := fun w' a' c' (h : Rd w' a' q) (h2 : Rd w' b m) => RMulP_c p q m a' b c' d w' h h2 (by omega) (by omega)
  have A1 := fun w' a' c' a2 c2 (h : Rd w' a' (rmul p q m)) (h2 : Rd w' a2 r) => RAddP_c p (rmul p q m) r a' a2 c' c2 w' h h2 (by omega) (by omega)
  rw [hback] at A1
  have HDM := Lib.hid DM
  have HRD := Lib.hid RD
  have HD1 := Lib.hid D1
  have HT1 := Lib.hid T1
  have HM1 := Lib.hid M1
  have HA1 := Lib.hid A1
  have HQL : Hid (q.length ≤ 24 ∧ r.length ≤ 24 ∧ A.length ≤ 24) := Lib.hid ⟨by omega, by omega, by omega⟩
  clear DM RD D1 T1 M1 A1 hback hq hr hA hn2 kq kr kl km h0
  go_enter Try.func3, Try.ntmps3
  go_wp2_with fail
  refine (awake_c _).mono ?_; rintro e w1 ⟨rfl, x2⟩
  have X := x2
  clear x2
  go_wp2_with fail
  refine (few_c l a c _).mono ?_; rintro e w3 ⟨rfl, rfl⟩
  go_wp2_with fail
  refine (few_c m b d _).mono ?_; rintro e w4 ⟨rfl, rfl⟩
  have ha := HA.out.ext X
  have hb := HB.out.ext X
  go_wp2_with fail
  refine (HDM.out _ (ha.ext ((Ext.refl _).alloc _)) (hb.ext ((Ext.refl _).alloc _))).mono ?_; rintro e w21 ⟨v, u, rfl, o21, o22, x21⟩
  obtain ⟨a1, c1, rfl, _, _, r1⟩ := o21.form
  obtain ⟨a2, c2, rfl, _, _, r2⟩ := o22.form
  replace ha := ha.ext x21.box
  replace hb := hb.ext x21.box
  replace X := X.trans x21.box
  clear o21 o22 x21
  go_wp2_with fail
  refine (RValid_c _ _).mono ?_; rintro e w5 ⟨rfl, x6⟩
  replace ha := ha.ext x6
  replace hb := hb.ext x6
  replace r1 := r1.ext x6
  replace r2 := r2.ext x6
  replace X := X.trans x6
  clear x6
  rw [V.out]
  go_wp2_with fail
  refine (HD1.out _ hb).mono ?_; rintro e w7 ⟨rfl, x8⟩
  replace ha := ha.ext x8
  replace hb := hb.ext x8
  replace r1 := r1.ext x8
  replace r2 := r2.ext x8
  replace X := X.trans x8
  clear x8
  go_wp2_with fail
  refine (HRD.out _ ha hb).mono ?_; rintro e w31 ⟨v, u, rfl, o31, o32, x31⟩
  obtain ⟨a3, c3, rfl, _, _, r3⟩ := o31.form
  obtain ⟨a4, c4, rfl, _, _, r4⟩ := o32.form
  replace ha := ha.ext x31
  replace hb := hb.ext x31
  replace r1 := r1.ext x31
  replace r2 := r2.ext x31
  replace X := X.trans x31
  clear o31 o32 x31
  go_wp2_with fail
  refine (same_c q _ _ _ _ _ _ rfl r1 r3 (by have := HQL.out.1; omega)).mono ?_; rintro e w9 ⟨rfl, x10⟩
  replace ha := ha.ext x10
  replace hb := hb.ext x10
  replace r1 := r1.ext x10
  replace r2 := r2.ext x10
  replace r3 := r3.ext x10
  replace r4 := r4.ext x10
  replace X := X.trans x10
  clear x10
  clear r3
  go_wp2_with fail
  refine (same_c r _ _ _ _ _ _ rfl r2 r4 (by have := HQL.out.2.1; omega)).mono ?_; rintro e w11 ⟨rfl, x12⟩
  replace ha := ha.ext x12
  replace hb := hb.ext x12
  replace r1 := r1.ext x12
  replace r2 := r2.ext x12
  replace r4 := r4.ext x12
  replace X := X.trans x12
  clear x12
  clear r4
  go_wp2_with fail
  refine (HM1.out _ _ _ r1 hb).mono ?_; rintro e w13 ⟨v, rfl, o15, x14⟩
  obtain ⟨r5_a, r5_c, rfl, _, _, r5⟩ := o15.form
  replace ha := ha.ext x14
  replace hb := hb.ext x14
  replace r1 := r1.ext x14
  replace r2 := r2.ext x14
  replace X := X.trans x14
  clear x14 o15
  clear r1
  go_wp2_with fail
  refine (HA1.out _ _ _ _ _ r5 r2).mono ?_; rintro e w16 ⟨v, rfl, o18, x17⟩
  obtain ⟨r6_a, r6_c, rfl, _, _, r6⟩ := o18.form
  replace ha := ha.ext x17
  replace hb := hb.ext x17
  replace r2 := r2.ext x17
  replace r5 := r5.ext x17
  replace X := X.trans x17
  clear x17 o18
  clear r5 r2
  go_wp2_with fail
  refine (HT1.out _ ha).mono ?_; rintro e w19 ⟨v, rfl, o21, x20⟩
  obtain ⟨r7_a, r7_c, rfl, _, _, r7⟩ := o21.form
  replace ha := ha.ext x20
  replace hb := hb.ext x20
  replace r6 := r6.ext x20
  replace X := X.trans x20
  clear x20 o21
  go_wp2_with fail
  refine (same_c A _ _ _ _ _ _ rfl r6 r7 (by have := HQL.out.2.2; omega)).mono ?_; rintro e w22 ⟨rfl, x23⟩
  replace ha := ha.ext x23
  replace hb := hb.ext x23
  replace r6 := r6.ext x23
  replace r7 := r7.ext x23
  replace X := X.trans x23
  clear x23
  go_wp2_with fail
  go_ret
  exact ⟨rfl, X⟩
end Go.Proofs.Ytbklflhikcfceaa
