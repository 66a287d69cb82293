/- Walks of laws of layer 3. -/
import Derived.Test.YtbklflhikcfceaaLaw
import Derived.Test.YtbklflhikcfceaaRef5
namespace Go.Proofs.Ytbklflhikcfceaa
open Go.RowKit

def FRel (p x : Nat) (l : List Nat) (w0 : World) (f s : Value) (wr : World) : Prop :=
  ∃ (k : Nat) (b : Bool), s = .int .i64 k ∧ k ≤ l.length ∧ f = .bool b ∧ (b = true ↔ ∃ j, j < k ∧ fsub p x (l.getD j 0) = 0) ∧ Ext w0 wr

set_option maxRecDepth 100000 in
set_option maxHeartbeats 2000000 in
theorem PolyVanishing_w (p : Nat) (l : List Nat) (a : Option Addr) (c x : Nat) (w : World) (ha : Rd w a l) :
    Calls Try.prog 5 #[.int .u64 p, .slice a l.length c, .int .u64 x] w fun e w' => e = .returned (.bool true) ∧ Ext w w' := by
  have HA := Lib.hid ha
  clear ha
  by_cases hf0 : l.length ≤ 16
  case neg =>
    have hd0 : decide ((16 : Int) < l.length) = true := decide_eq_true (by omega)
    clear hf0
    go_enter Try.func5, Try.ntmps5
    go_wp2_with fail
    refine (awake_c _).mono ?_; rintro e w1 ⟨rfl, x2⟩
    have X := x2
    clear x2
    go_wp2_with fail
    refine (awake_c _).mono ?_; rintro e w3 ⟨rfl, x4⟩
    replace X := X.trans x4
    clear x4
    go_wp2_with fail
    go_ret
    exact ⟨rfl, X⟩
  have hd0 : decide ((16 : Int) < l.length) = false := decide_eq_false (by omega)
  have VC := fun w' (h : Rd w' a l) => VanP_c p l a c w' h (by omega)
  have RV := fun w' (h : Rd w' a l) => RVan_c p l a c w' h (by omega)
  rw [← Q.van_same] at RV
  cases hv : vld p
  case false =>
    rw [hv] at VC RV
    have HVC : Hid (∀ w', Rd w' a l → Calls Try.prog 27 #[.agg #[.int .u64 p], .slice a l.length c] w' (SlPost w' [])) := Lib.hid VC
    have HRV : Hid (∀ w', Rd w' a l → Calls Try.prog 28 #[.int .u64 p, .slice a l.length c] w' (SlPost w' [])) := Lib.hid RV
    have V := Lib.hid hv
    clear hv VC RV
    go_enter Try.func5, Try.ntmps5
    go_wp2_with fail
    refine (awake_c _).mono ?_; rintro e w1 ⟨rfl, x2⟩
    have X := x2
    clear x2
    have ha := HA.out.ext X
    go_wp2_with fail
    refine (HVC.out _ (ha.ext ((Ext.refl _).alloc _))).mono ?_; rintro e w21 ⟨v, rfl, o21, x21⟩
    obtain ⟨a1, c1, rfl, _, r1⟩ := o21.formN 0 rfl
    have hc := x21.boxCell
    replace ha := ha.ext x21.box
    replace X := X.trans x21.box
    clear o21 x21
    go_wp2_with fail
    refine (HRV.out _ ha).mono ?_; rintro e w3 ⟨v, rfl, o5, x4⟩
    obtain ⟨r2_a, r2_c, rfl, _, r2⟩ := o5.formN _ rfl
    replace ha := ha.ext x4
    replace r1 := r1.ext x4
    replace hc := x4.cell hc
    replace X := X.trans x4
    clear x4 o5
    go_wp2_with fail
    refine (same_c [] 0 _ _ _ _ _ rfl r1 r2 (by omega)).mono ?_; rintro e w6 ⟨rfl, x7⟩
    replace ha := ha.ext x7
    replace r1 := r1.ext x7
    replace hc := x7.cell hc
    replace r2 := r2.ext x7
    replace X := X.trans x7
    clear x7
    clear r2
    go_wp2_with fail
    refine (RValid_c _ _).mono ?_; rintro e w8 ⟨rfl, x9⟩
    replace ha := ha.ext x9
    replace r1 := r1.ext x9
    replace hc := x9.cell hc
    replace X := X.trans x9
    clear x9
    rw [V.out]
    go_wp2_with fail
    go_ret
    exact ⟨rfl, X⟩
  rw [hv] at VC RV
  have hvl : (pvan p l).length = l.length + 1 := pvanK_len p l l.length
  have hz := Q.van_zero hv l x
  obtain ⟨V, hV⟩ : ∃ V, V = pvan p l := ⟨_, rfl⟩
  rw [← hV] at VC RV hvl hz
  have HVC : Hid (∀ w', Rd w' a l → Calls Try.prog 27 #[.agg #[.int .u64 p], .slice a l.length c] w' (SlPost w' V)) := Lib.hid VC
  have HRV : Hid (∀ w', Rd w' a l → Calls Try.prog 28 #[.int .u64 p, .slice a l.length c] w' (SlPost w' V)) := Lib.hid RV
  have EV := Lib.hid (fun w' a' c' (h : Rd w' a' V) => EvalP_c p V a' c' x w' h (by omega))
  have HV := Lib.hid hv
  have HVL := Lib.hid hvl
  have HZ := Lib.hid hz
  clear VC RV hv hV hvl hz
  go_enter Try.func5, Try.ntmps5
  go_wp2_with fail
  refine (awake_c _).mono ?_; rintro e w1 ⟨rfl, x2⟩
  have X := x2
  clear x2
  have ha := HA.out.ext X
  go_wp2_with fail
  refine (HVC.out _ (ha.ext ((Ext.refl _).alloc _))).mono ?_; rintro e w21 ⟨v, rfl, o21, x21⟩
  obtain ⟨a1, c1, rfl, _, _, r1⟩ := o21.form
  have hc := x21.boxCell
  replace ha := ha.ext x21.box
  replace X := X.trans x21.box
  clear o21 x21
  go_wp2_with fail
  refine (HRV.out _ ha).mono ?_; rintro e w3 ⟨v, rfl, o5, x4⟩
  obtain ⟨r2_a, r2_c, rfl, _, _, r2⟩ := o5.form
  replace ha := ha.ext x4
  replace r1 := r1.ext x4
  replace hc := x4.cell hc
  replace X := X.trans x4
  clear x4 o5
  go_wp2_with fail
  refine (same_c V _ _ _ _ _ _ rfl r1 r2 (by have := HVL.out; omega)).mono ?_; rintro e w6 ⟨rfl, x7⟩
  replace ha := ha.ext x7
  replace r1 := r1.ext x7
  replace hc := x7.cell hc
  replace r2 := r2.ext x7
  replace X := X.trans x7
  clear x7
  clear r2
  go_wp2_with fail
  refine (RValid_c _ _).mono ?_; rintro e w8 ⟨rfl, x9⟩
  replace ha := ha.ext x9
  replace r1 := r1.ext x9
  replace hc := x9.cell hc
  replace X := X.trans x9
  clear x9
  rw [HV.out]
  go_wp2_with fail
  go_loopw [9, 39] (FRel p x l w8) (fun _ i _ => l.length - (intOf i).toNat)
  case atStart => exact ⟨0, false, rfl, Nat.zero_le _, rfl, ⟨fun h => by simp at h, fun ⟨j, hj, _⟩ => absurd hj (Nat.not_lt_zero _)⟩, Ext.refl _⟩
  case round =>
    obtain ⟨k, bb, rfl, hk, rfl, hb, hext⟩ := hrel
    have HBB := Lib.hid hb
    replace r1 := r1.ext hext
    replace hc := hext.cell hc
    replace X := X.trans hext
    clear hb
    by_cases hlt : k < l.length
    · obtain ⟨g, off, rfl, hcell⟩ := ha.at (by omega)
      have c1 := hext.cell (hcell k hlt)
      obtain ⟨y, hy0⟩ : ∃ y, y = l.getD k 0 := ⟨_, rfl⟩
      rw [← hy0] at c1
      have HY := Lib.hid hy0
      clear hcell hy0 r1 ha
      cases bb
      · go_wp2_with fail
        refine (RSub_c _ _ _ _).mono ?_; rintro e w31 ⟨rfl, x31⟩
        by_cases hz : fsub p x y = 0
        · have t1 : ((fsub p x y : Int) == 0) = true := beq_iff_eq.2 (by omega)
          have HZ2 := Lib.hid hz
          clear hz
          go_wp2_with fail
          go_roundw
          case rel => exact ⟨k + 1, true, by go_num, by omega, rfl, ⟨fun _ => ⟨k, by omega, by rw [← HY.out]; exact HZ2.out⟩, fun _ => rfl⟩, hext.trans x31⟩
          case measure => simp [intOf]; omega
        · have t1 : ((fsub p x y : Int) == 0) = false := beq_eq_false_iff_ne.2 (by omega)
          have HZ2 := Lib.hid hz
          clear hz
          go_wp2_with fail
          go_roundw
          case rel =>
            refine ⟨k + 1, false, by go_num, by omega, rfl, ⟨fun h => by simp at h, fun ⟨j, hj, he⟩ => ?_⟩, hext.trans x31⟩
            rcases Nat.lt_or_ge j k with h | h
            · exact HBB.out.2 ⟨j, h, he⟩
            · obtain rfl : j = k := by omega
              rw [← HY.out] at he; exact absurd he HZ2.out
          case measure => simp [intOf]; omega
      · go_wp2_with fail
        go_roundw
        case rel =>
          obtain ⟨j, hj, he⟩ := HBB.out.1 rfl
          exact ⟨k + 1, true, by go_num, by omega, rfl, ⟨fun _ => ⟨j, by omega, he⟩, fun _ => rfl⟩, hext⟩
        case measure => simp [intOf]; omega
    · obtain rfl : k = l.length := by omega
      have EV2 := Lib.hid (EV.out _ _ c1 r1)
      clear r1 ha
      have key : Hid ((((horner p x V : Nat) : Int) == 0) = bb) := Lib.hid (by
        cases bb
        · refine beq_eq_false_iff_ne.2 fun h => ?_
          have := HBB.out.2 (HZ.out.1 (by omega))
          simp at this
        · have := HZ.out.2 (HBB.out.1 rfl)
          rw [this]; rfl)
      obtain ⟨h, hh⟩ : ∃ h, h = horner p x V := ⟨_, rfl⟩
      rw [← hh] at EV2 key
      clear hh
      go_wp2_with fail
      refine EV2.out.mono ?_; rintro e w41 ⟨rfl, x41⟩
      have t1 := key.out
      cases bb
      · go_wp2_with fail
        go_ret
        exact ⟨rfl, X.trans x41⟩
      · go_wp2_with fail
        go_ret
        exact ⟨rfl, X.trans x41⟩
end Go.Proofs.Ytbklflhikcfceaa
