/- Walks of laws of layer 3. -/
import Derived.Test.YtbklflhikcfceaaLaw
import Derived.Test.YtbklflhikcfceaaLink
namespace Go.Proofs.Ytbklflhikcfceaa
open Go.RowKit

set_option maxRecDepth 100000 in
set_option maxHeartbeats 2000000 in
theorem PolySums_w (p : Nat) (l m : List Nat) (a b : Option Addr) (c d : Nat) (w : World) (ha : Rd w a l) (hb : Rd w b m) :
    Calls Try.prog 11 #[.int .u64 p, .slice a l.length c, .slice b m.length d] w fun e w' => e = .returned (.bool true) ∧ Ext w w' := by
  have HA := Lib.hid ha
  have HB := Lib.hid hb
  clear ha hb
  by_cases hf0 : l.length ≤ 24
  case neg =>
    have hd0 : decide ((l.length : Int) ≤ 24) = false := by simp; omega
    clear hf0
    go_enter Try.func11, Try.ntmps11
    go_wp2_with fail
    refine (awake_c _).mono ?_; rintro e w1 ⟨rfl, x2⟩
    have X := x2
    clear x2
    go_wp2_with fail
    refine (few_c l a c _).mono ?_; rintro e w3 ⟨rfl, rfl⟩
    go_wp2_with fail
    refine (awake_c _).mono ?_; rintro e w4 ⟨rfl, x5⟩
    replace X := X.trans x5
    clear x5
    go_wp2_with fail
    go_ret
    exact ⟨rfl, X⟩
  have hd0 : decide ((l.length : Int) ≤ 24) = true := by simp; omega
  by_cases hf1 : m.length ≤ 24
  case neg =>
    have hd1 : decide ((m.length : Int) ≤ 24) = false := by simp; omega
    clear hf1
    go_enter Try.func11, Try.ntmps11
    go_wp2_with fail
    refine (awake_c _).mono ?_; rintro e w1 ⟨rfl, x2⟩
    have X := x2
    clear x2
    go_wp2_with fail
    refine (few_c l a c _).mono ?_; rintro e w3 ⟨rfl, rfl⟩
    go_wp2_with fail
    refine (few_c m b d _).mono ?_; rintro e w4 ⟨rfl, rfl⟩
    go_wp2_with fail
    refine (awake_c _).mono ?_; rintro e w5 ⟨rfl, x6⟩
    replace X := X.trans x6
    clear x6
    go_wp2_with fail
    go_ret
    exact ⟨rfl, X⟩
  have hd1 : decide ((m.length : Int) ≤ 24) = true := by simp; omega
  have q1 := radd_le p l m
  have q2 := rsub_le p l m
  have q3 := fun n => rscale_le p l n
  have Q3 := Lib.hid q3
  clear q3
  by_cases hm0 : 0 < m.length
  case pos =>
    have t0 : decide ((0 : Int) < m.length) = true := decide_eq_true (by omega)
    go_enter Try.func11, Try.ntmps11
    go_wp2_with fail
    refine (awake_c _).mono ?_; rintro e w1 ⟨rfl, x2⟩
    have X := x2
    clear x2
    go_wp2_with fail
    refine (few_c l a c _).mono ?_; rintro e w3 ⟨rfl, rfl⟩
    go_wp2_with fail
    refine (few_c m b d _).mono ?_; rintro e w4 ⟨rfl, rfl⟩
    have ha := HA.out.ext X
    have hb := HB.out.ext X
    obtain ⟨b1, o1, rfl, hcell⟩ := hb.at hm0
    obtain ⟨y, hy0⟩ : ∃ y, y = m.getD 0 0 := ⟨_, rfl⟩
    have cm := hcell 0 hm0
    rw [← hy0, Nat.add_zero] at cm
    have cm2 := ((Ext.refl _).alloc (.cells #[.int .u64 p] 27)).cell cm
    clear hcell hy0 cm
    have Ha := Lib.hid ha
    have Hb := Lib.hid hb
    clear ha hb
    go_wp2_with fail
    refine (AddP_c p l m a (some ⟨b1, o1, none⟩) c d _ (Ha.out.ext ((Ext.refl _).alloc _)) (Hb.out.ext ((Ext.refl _).alloc _)) (by omega) (by omega)).mono ?_; rintro e w11 ⟨v, rfl, o11, x11⟩
    rw [Q.add_same] at o11
    obtain ⟨r1_a, r1_c, rfl, _, _, r1⟩ := o11.form
    have hc := x11.boxCell
    have ha := Ha.out.ext x11.box
    have hb := Hb.out.ext x11.box
    replace X := X.trans x11.box
    clear o11 x11
    go_wp2_with fail
    refine (RAddP_c p l m a (some ⟨b1, o1, none⟩) c d _ ha hb (by omega) (by omega)).mono ?_; rintro e w5 ⟨v, rfl, o7, x6⟩
    obtain ⟨r2_a, r2_c, rfl, _, _, r2⟩ := o7.form
    replace ha := ha.ext x6
    replace hb := hb.ext x6
    replace r1 := r1.ext x6
    replace hc := x6.cell hc
    replace X := X.trans x6
    clear x6 o7
    go_wp2_with fail
    refine (same_c (radd p l m) _ _ _ _ _ _ rfl r1 r2 (by omega)).mono ?_; rintro e w8 ⟨rfl, x9⟩
    replace ha := ha.ext x9
    replace hb := hb.ext x9
    replace r1 := r1.ext x9
    replace hc := x9.cell hc
    replace r2 := r2.ext x9
    replace X := X.trans x9
    clear x9
    clear r1 r2
    go_wp2_with fail
    refine (SubP_c p l m a (some ⟨b1, o1, none⟩) c d _ ha hb (by omega) (by omega)).mono ?_; rintro e w12 ⟨v, rfl, o12, x12⟩
    rw [Q.sub_same] at o12
    obtain ⟨r3_a, r3_c, rfl, _, _, r3⟩ := o12.form
    replace ha := ha.ext x12
    replace hb := hb.ext x12
    replace hc := x12.cell hc
    replace X := X.trans x12
    clear o12 x12
    go_wp2_with fail
    refine (RSubP_c p l m a (some ⟨b1, o1, none⟩) c d _ ha hb (by omega) (by omega)).mono ?_; rintro e w10 ⟨v, rfl, o12, x11⟩
    obtain ⟨r4_a, r4_c, rfl, _, _, r4⟩ := o12.form
    replace ha := ha.ext x11
    replace hb := hb.ext x11
    replace hc := x11.cell hc
    replace r3 := r3.ext x11
    replace X := X.trans x11
    clear x11 o12
    go_wp2_with fail
    refine (same_c (rsub p l m) _ _ _ _ _ _ rfl r3 r4 (by omega)).mono ?_; rintro e w13 ⟨rfl, x14⟩
    replace ha := ha.ext x14
    replace hb := hb.ext x14
    replace hc := x14.cell hc
    replace r3 := r3.ext x14
    replace r4 := r4.ext x14
    replace X := X.trans x14
    clear x14
    clear r3 r4
    go_wp2_with fail
    refine (ScaleP_c p l a c y _ ha (by omega)).mono ?_; rintro e w13 ⟨v, rfl, o13, x13⟩
    rw [Q.scale_same] at o13
    obtain ⟨r5_a, r5_c, rfl, _, _, r5⟩ := o13.form
    replace ha := ha.ext x13
    replace hb := hb.ext x13
    replace hc := x13.cell hc
    replace X := X.trans x13
    clear o13 x13
    go_wp2_with fail
    refine (RScale_c p l a c y _ ha (by omega)).mono ?_; rintro e w14 ⟨v, rfl, o14, x14⟩
    obtain ⟨r6_a, r6_c, rfl, _, _, r6⟩ := o14.form
    replace ha := ha.ext x14
    replace hb := hb.ext x14
    replace hc := x14.cell hc
    replace r5 := r5.ext x14
    replace X := X.trans x14
    clear o14 x14
    have hq := Q3.out y
    go_wp2_with fail
    refine (same_c (rscale p l y) _ _ _ _ _ _ rfl r5 r6 (by omega)).mono ?_; rintro e w16 ⟨rfl, x17⟩
    replace ha := ha.ext x17
    replace hb := hb.ext x17
    replace hc := x17.cell hc
    replace r5 := r5.ext x17
    replace r6 := r6.ext x17
    replace X := X.trans x17
    clear x17
    go_wp2_with fail
    go_ret
    exact ⟨rfl, X⟩
  have t0 : decide ((0 : Int) < m.length) = false := decide_eq_false (by omega)
  obtain ⟨y, e1⟩ : ∃ y : Nat, (l.length : Int) * 1000003 = (y : Int) := ⟨l.length * 1000003, by omega⟩
  go_enter Try.func11, Try.ntmps11
  go_wp2_with fail
  refine (awake_c _).mono ?_; rintro e w1 ⟨rfl, x2⟩
  have X := x2
  clear x2
  go_wp2_with fail
  refine (few_c l a c _).mono ?_; rintro e w3 ⟨rfl, rfl⟩
  go_wp2_with fail
  refine (few_c m b d _).mono ?_; rintro e w4 ⟨rfl, rfl⟩
  have ha := HA.out.ext X
  have hb := HB.out.ext X
  have Ha := Lib.hid ha
  have Hb := Lib.hid hb
  clear ha hb
  go_wp2_with fail
  refine (AddP_c p l m a b c d _ (Ha.out.ext ((Ext.refl _).alloc _)) (Hb.out.ext ((Ext.refl _).alloc _)) (by omega) (by omega)).mono ?_; rintro e w11 ⟨v, rfl, o11, x11⟩
  rw [Q.add_same] at o11
  obtain ⟨r1_a, r1_c, rfl, _, _, r1⟩ := o11.form
  have hc := x11.boxCell
  have ha := Ha.out.ext x11.box
  have hb := Hb.out.ext x11.box
  replace X := X.trans x11.box
  clear o11 x11
  go_wp2_with fail
  refine (RAddP_c p l m a b c d _ ha hb (by omega) (by omega)).mono ?_; rintro e w5 ⟨v, rfl, o7, x6⟩
  obtain ⟨r2_a, r2_c, rfl, _, _, r2⟩ := o7.form
  replace ha := ha.ext x6
  replace hb := hb.ext x6
  replace r1 := r1.ext x6
  replace hc := x6.cell hc
  replace X := X.trans x6
  clear x6 o7
  go_wp2_with fail
  refine (same_c (radd p l m) _ _ _ _ _ _ rfl r1 r2 (by omega)).mono ?_; rintro e w8 ⟨rfl, x9⟩
  replace ha := ha.ext x9
  replace hb := hb.ext x9
  replace r1 := r1.ext x9
  replace hc := x9.cell hc
  replace r2 := r2.ext x9
  replace X := X.trans x9
  clear x9
  clear r1 r2
  go_wp2_with fail
  refine (SubP_c p l m a b c d _ ha hb (by omega) (by omega)).mono ?_; rintro e w12 ⟨v, rfl, o12, x12⟩
  rw [Q.sub_same] at o12
  obtain ⟨r3_a, r3_c, rfl, _, _, r3⟩ := o12.form
  replace ha := ha.ext x12
  replace hb := hb.ext x12
  replace hc := x12.cell hc
  replace X := X.trans x12
  clear o12 x12
  go_wp2_with fail
  refine (RSubP_c p l m a b c d _ ha hb (by omega) (by omega)).mono ?_; rintro e w10 ⟨v, rfl, o12, x11⟩
  obtain ⟨r4_a, r4_c, rfl, _, _, r4⟩ := o12.form
  replace ha := ha.ext x11
  replace hb := hb.ext x11
  replace hc := x11.cell hc
  replace r3 := r3.ext x11
  replace X := X.trans x11
  clear x11 o12
  go_wp2_with fail
  refine (same_c (rsub p l m) _ _ _ _ _ _ rfl r3 r4 (by omega)).mono ?_; rintro e w13 ⟨rfl, x14⟩
  replace ha := ha.ext x14
  replace hb := hb.ext x14
  replace hc := x14.cell hc
  replace r3 := r3.ext x14
  replace r4 := r4.ext x14
  replace X := X.trans x14
  clear x14
  clear r3 r4
  go_wp2_with fail
  refine (ScaleP_c p l a c y _ ha (by omega)).mono ?_; rintro e w13 ⟨v, rfl, o13, x13⟩
  rw [Q.scale_same] at o13
  obtain ⟨r5_a, r5_c, rfl, _, _, r5⟩ := o13.form
  replace ha := ha.ext x13
  replace hb := hb.ext x13
  replace hc := x13.cell hc
  replace X := X.trans x13
  clear o13 x13
  go_wp2_with fail
  refine (RScale_c p l a c y _ ha (by omega)).mono ?_; rintro e w14 ⟨v, rfl, o14, x14⟩
  obtain ⟨r6_a, r6_c, rfl, _, _, r6⟩ := o14.form
  replace ha := ha.ext x14
  replace hb := hb.ext x14
  replace hc := x14.cell hc
  replace r5 := r5.ext x14
  replace X := X.trans x14
  clear o14 x14
  have hq := Q3.out y
  go_wp2_with fail
  refine (same_c (rscale p l y) _ _ _ _ _ _ rfl r5 r6 (by omega)).mono ?_; rintro e w16 ⟨rfl, x17⟩
  replace ha := ha.ext x17
  replace hb := hb.ext x17
  replace hc := x17.cell hc
  replace r5 := r5.ext x17
  replace r6 := r6.ext x17
  replace X := X.trans x17
  clear x17
  go_wp2_with fail
  go_ret
  exact ⟨rfl, X⟩
end Go.Proofs.Ytbklflhikcfceaa
