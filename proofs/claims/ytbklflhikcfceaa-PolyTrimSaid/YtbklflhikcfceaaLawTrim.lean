/- The walk of PolyTrim. -/
import Derived.Test.YtbklflhikcfceaaLaw
namespace Go.Proofs.Ytbklflhikcfceaa
open Go.RowKit

set_option maxHeartbeats 1000000 in
theorem PolyTrim_w (p : Nat) (l : List Nat) (a : Option Addr) (c : Nat) (w : World) (ha : Rd w a l) :
    Calls Try.prog 7 #[.int .u64 p, .slice a l.length c] w fun e w' => e = .returned (.bool true) ∧ Ext w w' := by
  have HA := Lib.hid ha
  clear ha
  by_cases hf : l.length ≤ 24
  · have hfd : decide ((l.length : Int) ≤ 24) = true := by simp; omega
    have htl : (trimP p l).length ≤ 24 := Nat.le_trans (trimP_le p l) hf
    go_enter Try.func7, Try.ntmps7
    go_wp2_with fail
    refine (awake_c _).mono ?_; rintro e w1 ⟨rfl, x1⟩
    go_wp2_with fail
    refine (few_c l a c _).mono ?_; rintro e w2 ⟨rfl, rfl⟩
    go_wp2_with fail
    refine (Trim_c p l a c _ (HA.out.ext (x1.alloc _)) (by omega)).mono ?_; rintro e w2 ⟨v, rfl, o2, x2⟩
    obtain ⟨a2, c2, rfl, _, _, r2⟩ := o2.form
    have hc := x2.boxCell
    clear o2
    have X2 := x1.trans x2.box
    go_wp2_with fail
    refine (RTrim_c p l a c _ (HA.out.ext X2) (by omega)).mono ?_; rintro e w3 ⟨v, rfl, o3, x3⟩
    obtain ⟨a3, c3, rfl, _, _, r3⟩ := o3.form
    replace hc := x3.cell hc
    clear o3
    go_wp2_with fail
    refine (same_c (trimP p l) _ _ _ _ _ _ rfl (r2.ext x3) r3 (by omega)).mono ?_; rintro e w4 ⟨rfl, x4⟩
    replace hc := x4.cell hc
    have X4 := (X2.trans x3).trans x4
    clear r2 r3 x2 x3 x4
    go_wp2_with fail
    refine (Degree_c p l a c _ (HA.out.ext X4) (by omega)).mono ?_; rintro e w5 ⟨rfl, x5⟩
    go_wp2_with fail
    refine (RDegree_c p l a c _ (HA.out.ext (X4.trans x5)) (by omega)).mono ?_; rintro e w6 ⟨rfl, x6⟩
    go_wp2_with fail
    go_ret
    exact ⟨by simp, (X4.trans x5).trans x6⟩
  · have hfd : decide ((l.length : Int) ≤ 24) = false := by simp; omega
    go_enter Try.func7, Try.ntmps7
    go_wp2_with fail
    refine (awake_c _).mono ?_; rintro e w1 ⟨rfl, x1⟩
    go_wp2_with fail
    refine (few_c l a c _).mono ?_; rintro e w2 ⟨rfl, rfl⟩
    go_wp2_with fail
    refine (awake_c _).mono ?_; rintro e w3 ⟨rfl, x3⟩
    go_wp2_with fail
    go_ret
    exact ⟨rfl, x1.trans x3⟩
end Go.Proofs.Ytbklflhikcfceaa
