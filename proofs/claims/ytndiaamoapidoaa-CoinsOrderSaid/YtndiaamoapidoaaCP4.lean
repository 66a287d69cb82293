/- Walk of CoinsOrder. -/
import Derived.Test.YtndiaamoapidoaaCoO
namespace Go.Proofs.Ytndiaamoapidoaa
open Go.RowKit

set_option maxRecDepth 100000 in
set_option maxHeartbeats 8000000 in
theorem CoinsOrder_w (vs : List Nat) (t : Nat) (most : Int) (a : Option Addr) (c : Nat) (w : World) (ha : Rd w a vs) (hl : vs.length ≤ 9223372036854775807) (ht : t < 18446744073709551616) :
    Calls Try.prog 5 #[.slice a vs.length c, .int .u64 (t : Int), .int .i64 most] w fun e w' => e = .returned (.bool true) ∧ Ext w w' := by
  have HA := Lib.hid ha
  have EC := Lib.hid (fun w' (h : Rd w' a vs) => RError_c vs most a c w' h hl)
  clear ha
  by_cases hr : rE vs most = 0
  case neg =>
    obtain ⟨ee, he⟩ : ∃ ee, ee = rE vs most := ⟨_, rfl⟩
    rw [← he] at hr EC
    have t1 : (ee == 0) = false := beq_eq_false_iff_ne.2 hr
    clear he
    go_enter Try.func5, Try.ntmps5
    go_wp2_with fail
    refine (awake50_c _).mono ?_; rintro e w1 ⟨rfl, x1⟩
    go_wp2_with fail
    refine (EC.out _ (HA.out.ext x1)).mono ?_; rintro e w2 ⟨rfl, x2⟩
    go_wp2_with fail
    go_ret
    exact ⟨rfl, x1.trans x2⟩
  rw [hr] at EC
  obtain ⟨h0, hm⟩ := rE_ok hr
  obtain ⟨h24, hsm⟩ := exE_zero h0
  have HSM := Lib.hid (of_decide_eq_true hsm)
  have OC := Lib.hid (fun w' (h : Rd w' a vs) => own50_c vs a c w' h (by omega))
  have SLC := Lib.hid (fun w' (a' : Option Addr) (c' : Nat) (h : Rd w' a' vs) => Select_c vs t most a' c' w' h hl)
  have hP := sel_pair vs t most h0 hm
  obtain ⟨us, hus⟩ : ∃ us, us = vs.reverse := ⟨_, rfl⟩
  have hul : us.length = vs.length := by rw [hus, List.length_reverse]
  have RC := Lib.hid (fun w' v (h : Own w' w'.heap.size v vs) => h)
  have hsmu : smallL us = true := (exE_zero (by rw [hus, exE_rev]; exact h0)).2
  rw [← hus] at hP
  have hll := hP.sel.len
  have ASC1 := Lib.hid (fun w' (b : Option Addr) (d : Nat) (h : RdI w' b (selL vs t most)) => RAsc_c (selL vs t most) vs.length b d w' h (by omega))
  have ASC2 := Lib.hid (fun w' (b : Option Addr) (d : Nat) (h : RdI w' b (selL us t most)) => RAsc_c (selL us t most) us.length b d w' h (by have := hP.sel2.len; omega))
  rw [hP.sel] at ASC1
  rw [hP.sel2] at ASC2
  have SUM1 := Lib.hid (fun w' (b : Option Addr) (d : Nat) (h1 : Rd w' a vs) (h2 : RdI w' b (selL vs t most)) => RSum_c vs (selL vs t most) a b c d w' h1 h2 (asc_getD hP.sel) (of_decide_eq_true hsm) (by omega) (by omega))
  have SUM2 := Lib.hid (fun w' (a' b : Option Addr) (c' d : Nat) (h1 : Rd w' a' us) (h2 : RdI w' b (selL us t most)) => RSum_c us (selL us t most) a' b c' d w' h1 h2 (asc_getD hP.sel2) (of_decide_eq_true hsmu) (by have := hP.sel2.len; omega) (by omega))
  have SLU := Lib.hid (fun w' (a' : Option Addr) (c' : Nat) (h : Rd w' a' us) => Select_c us t most a' c' w' h (by omega))
  have OU := Lib.hid (fun w' (a' : Option Addr) (c' : Nat) (h : Rd w' a' us) => own50_c us a' c' w' h (by omega))
  have RV := Lib.hid (fun w' base v (h : Own w' base v vs) => Reverse_own base v vs w' h (by omega))
  rw [← hus] at RV
  rw [← hP.err] at SLU
  rw [← hP.sum] at SUM2
  have hle := hP.len
  obtain ⟨l, hl0⟩ : ∃ l, l = selL vs t most := ⟨_, rfl⟩
  obtain ⟨m, hm0⟩ : ∃ m, m = selL us t most := ⟨_, rfl⟩
  rw [← hl0] at SLC ASC1 SUM1 SUM2 hle hll
  rw [← hm0] at SLU ASC2 SUM2 hle
  obtain ⟨s, hs⟩ : ∃ s, s = sumI vs l := ⟨_, rfl⟩
  rw [← hs] at SUM1 SUM2
  obtain ⟨ee, hee⟩ : ∃ ee, ee = selE vs t most := ⟨_, rfl⟩
  rw [← hee] at SLC SLU
  obtain ⟨k, hk⟩ : ∃ k, k = l.length := ⟨_, rfl⟩
  have HKL : Hid (l.length = k) := Lib.hid hk.symm
  have HKM : Hid (m.length = k) := Lib.hid (by rw [hk, hle])
  have HUL := Lib.hid hul
  rw [HKL.out] at ASC1 SUM1
  rw [HKM.out] at ASC2 SUM2
  rw [hul] at ASC2 SUM2 SLU OU
  have hk24 : k ≤ 24 := by omega
  have t3 : (ee == ee) = true := by simp
  have t4 : ((k : Int) == (k : Int)) = true := by simp
  have t5 : ((s : Int) == (s : Int)) = true := by simp
  clear hr h0 hsm hsmu hP hus hul hl0 hm0 hs hee hk hle hll RC
  go_enter Try.func5, Try.ntmps5
  go_wp2_with fail
  refine (awake50_c _).mono ?_; rintro e w1 ⟨rfl, x1⟩
  have X1 := Lib.hid x1
  clear x1
  go_wp2_with fail
  refine (EC.out _ (HA.out.ext X1.out)).mono ?_; rintro e w2 ⟨rfl, x2⟩
  have X2 := Lib.hid (X1.out.trans x2)
  clear x2
  go_wp2_with fail
  refine (OC.out _ (HA.out.ext X2.out)).mono ?_; rintro e wb ⟨vb, rfl, ob, xb⟩
  obtain ⟨abk, cbk, hvb, _, _, _⟩ := ob.form
  have OB := Lib.hid ob
  have XB := Lib.hid xb
  have HVB := Lib.hid hvb
  clear ob xb
  subst hvb
  go_wp2_with fail
  refine (RV.out _ _ _ OB.out).mono ?_; rintro e wc ⟨rfl, oc, xc⟩
  have XC := Lib.hid (X2.out.trans (xc _ XB.out (Nat.le_refl _)))
  obtain ⟨aq, cq, hq, _, rq⟩ := oc.formN vs.length HUL.out
  injection hq with hq1 hq2 hq3
  rw [← hq1] at rq
  have RQ := Lib.hid rq
  clear oc xc rq hq1 hq2 hq3
  go_wp2_with fail
  have HAC := Lib.hid (HA.out.ext XC.out)
  have XI := Lib.hid (Ext.refl wc)
  refine (OC.out _ (HAC.out.ext XI.out)).mono ?_; rintro e w3 ⟨v3, rfl, o3, x3⟩
  obtain ⟨a3, c3, rfl, _, _, r3⟩ := o3.form
  have R3 := Lib.hid r3
  have X3 := Lib.hid (XI.out.trans x3)
  clear o3 r3 x3
  go_wp2_with fail
  refine (SLC.out _ _ _ R3.out).mono ?_; rintro e w3s ⟨v3s, rfl, o3s, x3s⟩
  have X3s := Lib.hid (X3.out.trans x3s)
  clear x3s
  obtain ⟨a4, c4, rfl, _, r4⟩ := o3s.formN k HKL.out
  have R4 := Lib.hid r4
  clear o3s r4
  go_wp2_with fail
  refine (OU.out _ _ _ (RQ.out.ext X3s.out)).mono ?_; rintro e w5 ⟨v5, rfl, o5, x5⟩
  obtain ⟨a5, c5, rfl, _, r5⟩ := o5.formN vs.length HUL.out
  have R5 := Lib.hid r5
  have X5 := Lib.hid x5
  clear o5 r5 x5
  go_wp2_with fail
  refine (SLU.out _ _ _ R5.out).mono ?_; rintro e w5s ⟨v5s, rfl, o5s, x5s⟩
  have X5s := Lib.hid (X5.out.trans x5s)
  obtain ⟨a6, c6, rfl, _, r6⟩ := o5s.formN k HKM.out
  have R6 := Lib.hid r6
  clear o5s r6 x5s
  go_wp2_with fail
  refine (ASC1.out _ _ _ (R4.out.ext X5s.out)).mono ?_; rintro e w7 ⟨rfl, x7⟩
  have X7 := Lib.hid x7
  clear x7
  go_wp2_with fail
  refine (ASC2.out _ _ _ (R6.out.ext X7.out)).mono ?_; rintro e w8 ⟨rfl, x8⟩
  have X8 := Lib.hid (X7.out.trans x8)
  clear x8
  go_wp2_with fail
  refine (SUM1.out _ _ _ (HAC.out.ext (X3s.out.trans (X5s.out.trans X8.out))) (R4.out.ext (X5s.out.trans X8.out))).mono ?_; rintro e w9 ⟨rfl, x9⟩
  have X9 := Lib.hid (X8.out.trans x9)
  clear x9
  go_wp2_with fail
  refine (SUM2.out _ _ _ _ _ (RQ.out.ext (X3s.out.trans (X5s.out.trans X9.out))) (R6.out.ext X9.out)).mono ?_; rintro e wa ⟨rfl, xa⟩
  have XA := Lib.hid (X9.out.trans xa)
  clear xa
  go_wp2_with fail
  go_ret
  exact ⟨rfl, XC.out.trans (X3s.out.trans (X5s.out.trans XA.out))⟩
end Go.Proofs.Ytndiaamoapidoaa
