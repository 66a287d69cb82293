/- Walk of MarksetMatchesModel. -/
import Derived.Test.YteomgccpocgffaaMk6
namespace Go.Proofs.Yteomgccpocgffaa
open Go.RowKit

set_option maxRecDepth 100000 in
set_option maxHeartbeats 4000000 in
theorem MarksetMatchesModel_w (os : OpL) (a : Option Addr) (c x : Nat) (w : World) (ha : RdO w a os) (hl : os.length ≤ 9223372036854775807) (hx : x < 18446744073709551616) :
    Calls Try.prog 3 #[.slice a os.length c, .int .u64 (x : Int)] w fun e w' => e = .returned (.bool true) ∧ Ext w w' := by
  have FC := fun w' (h : RdO w' a os) => few_c os a c w' h hl
  have HA := Lib.hid ha
  cases hf : fewB os
  case false =>
    rw [hf] at FC
    have HFC := Lib.hid FC
    clear FC ha hf
    go_enter Try.func3, Try.ntmps3
    go_wp2_with fail
    refine (awake38_c _).mono ?_; rintro e w1 ⟨rfl, x1⟩
    go_wp2_with fail
    refine (HFC.out _ (HA.out.ext x1)).mono ?_; rintro e w2 ⟨rfl, x2⟩
    go_wp2_with fail
    go_ret
    exact ⟨rfl, x1.trans x2⟩
  rw [hf] at FC
  have HFC := Lib.hid FC
  have RC := Lib.hid (fun w' (h : RdO w' a os) => run_c os a c w' h hf)
  have hml := runM_len hf os.length (Nat.le_refl _)
  have hl30 : os.length ≤ 30 := by unfold fewB at hf; rw [Bool.and_eq_true] at hf; exact of_decide_eq_true hf.2
  obtain ⟨M, hM⟩ : ∃ M, M = runM os os.length := ⟨_, rfl⟩
  rw [← hM] at RC hml
  have HC := Lib.hid (fun w' ps b (h : St w' ps b M) => Has_c M x ps b w' h hx)
  have RHC := Lib.hid (fun w' a' c' (h : Rd w' a' M) => RHas_c M x a' c' w' h (by omega))
  obtain ⟨B, hB⟩ : ∃ B, B = decide (x ∈ M) := ⟨_, rfl⟩
  rw [← hB] at HC RHC
  have tB : (B == B) = true := by simp
  clear FC ha hf hM hB
  go_enter Try.func3, Try.ntmps3
  go_wp2_with fail
  refine (awake38_c _).mono ?_; rintro e w1 ⟨rfl, x1⟩
  go_wp2_with fail
  refine (HFC.out _ (HA.out.ext x1)).mono ?_; rintro e w2 ⟨rfl, x2⟩
  have X2 := x1.trans x2
  go_wp2_with fail
  refine (RC.out _ (HA.out.ext X2)).mono ?_; rintro e w3 ⟨ps, b, am, cm, rfl, s3, r3, hb, x3⟩
  have X3 := X2.trans x3
  clear x1 x2 x3 X2 hb
  go_wp2_with fail
  refine (HC.out _ _ _ s3).mono ?_; rintro e w4 ⟨rfl, x4⟩
  go_wp2_with fail
  refine (RHC.out _ _ _ (r3.ext x4)).mono ?_; rintro e w5 ⟨rfl, x5⟩
  go_wp2_with fail
  go_ret
  exact ⟨rfl, X3.trans (x4.trans x5)⟩
end Go.Proofs.Yteomgccpocgffaa
