/- Walk of CoinsGood. -/
import Derived.Test.YtndiaamoapidoaaCoO
namespace Go.Proofs.Ytndiaamoapidoaa
open Go.RowKit

set_option maxRecDepth 100000 in
set_option maxHeartbeats 8000000 in
theorem CoinsGood_w (vs : List Nat) (t : Nat) (most : Int) (a : Option Addr) (c : Nat) (w : World) (ha : Rd w a vs) (hl : vs.length ≤ 9223372036854775807) (_ht : t < 18446744073709551616) :
    Calls Try.prog 4 #[.slice a vs.length c, .int .u64 (t : Int), .int .i64 most] w fun e w' => e = .returned (.bool true) ∧ Ext w w' := by
  have HA := Lib.hid ha
  have EC := Lib.hid (fun w' (h : Rd w' a vs) => RError_c vs most a c w' h hl)
  clear ha
  by_cases hr : rE vs most = 0
  case neg =>
    obtain ⟨ee, he⟩ : ∃ ee, ee = rE vs most := ⟨_, rfl⟩
    rw [← he] at hr EC
    have t1 : (ee == 0) = false := beq_eq_false_iff_ne.2 hr
    clear he
    go_enter Try.func4, Try.ntmps4
    go_wp2_with fail
    refine (awake50_c _).mono ?_; rintro e w1 ⟨rfl, x1⟩
    go_wp2_with fail
    refine (EC.out _ (HA.out.ext x1)).mono ?_; rintro e w2 ⟨rfl, x2⟩
    go_wp2_with fail
    go_ret
    exact ⟨rfl, x1.trans x2⟩
  rw [hr] at EC
  obtain ⟨h0, hm⟩ := rE_ok hr
  obtain ⟨h24, hsm⟩ := exE_zero h0
  have HSM := Lib.hid (of_decide_eq_true hsm)
  have OC := Lib.hid (fun w' (h : Rd w' a vs) => own50_c vs a c w' h (by omega))
  have SLC := Lib.hid (fun w' (a' : Option Addr) (c' : Nat) (h : Rd w' a' vs) => Select_c vs t most a' c' w' h hl)
  have FC := Lib.hid (fun w' (h : Rd w' a vs) => RFewest_c vs t a c w' h h24 (of_decide_eq_true hsm))
  rcases sel_spec vs t most h0 hm with ⟨e1, e2, e3, _⟩ | ⟨k, hk, e1, hB⟩
  · rw [e1, e2] at SLC
    obtain ⟨n, hn⟩ : ∃ n, n = fewM vs t := ⟨_, rfl⟩
    rw [← hn] at FC e3
    clear hr h0 hsm e1 e2 hn
    by_cases hn0 : n < 0
    · clear e3
      go_enter Try.func4, Try.ntmps4
      go_wp2_with fail
      refine (awake50_c _).mono ?_; rintro e w1 ⟨rfl, x1⟩
      have X1 := Lib.hid x1
      clear x1
      go_wp2_with fail
      refine (EC.out _ (HA.out.ext X1.out)).mono ?_; rintro e w2 ⟨rfl, x2⟩
      have X2 := Lib.hid (X1.out.trans x2)
      clear x2
      go_wp2_with fail
      refine (OC.out _ (HA.out.ext X2.out)).mono ?_; rintro e w3 ⟨v3, rfl, o3, x3⟩
      obtain ⟨a3, c3, rfl, _, _, r3⟩ := o3.form
      have R3 := Lib.hid r3
      have X3 := Lib.hid (X2.out.trans x3)
      clear o3 r3 x3
      go_wp2_with fail
      refine (SLC.out _ _ _ R3.out).mono ?_; rintro e w3s ⟨v3s, rfl, o3s, x3s⟩
      have X3s := Lib.hid (X3.out.trans x3s)
      clear x3s
      obtain ⟨a4, c4, rfl, _, _⟩ := o3s.formN 0 rfl
      clear o3s
      go_wp2_with fail
      refine (FC.out _ (HA.out.ext X3s.out)).mono ?_; rintro e w5 ⟨rfl, x5⟩
      have X5 := Lib.hid (X3s.out.trans x5)
      clear x5
      go_wp2_with fail
      go_ret
      exact ⟨rfl, X5.out⟩
    · have hn1 : most < n := by rcases e3 with h | h; omega; exact h
      clear e3
      go_enter Try.func4, Try.ntmps4
      go_wp2_with fail
      refine (awake50_c _).mono ?_; rintro e w1 ⟨rfl, x1⟩
      have X1 := Lib.hid x1
      clear x1
      go_wp2_with fail
      refine (EC.out _ (HA.out.ext X1.out)).mono ?_; rintro e w2 ⟨rfl, x2⟩
      have X2 := Lib.hid (X1.out.trans x2)
      clear x2
      go_wp2_with fail
      refine (OC.out _ (HA.out.ext X2.out)).mono ?_; rintro e w3 ⟨v3, rfl, o3, x3⟩
      obtain ⟨a3, c3, rfl, _, _, r3⟩ := o3.form
      have R3 := Lib.hid r3
      have X3 := Lib.hid (X2.out.trans x3)
      clear o3 r3 x3
      go_wp2_with fail
      refine (SLC.out _ _ _ R3.out).mono ?_; rintro e w3s ⟨v3s, rfl, o3s, x3s⟩
      have X3s := Lib.hid (X3.out.trans x3s)
      clear x3s
      obtain ⟨a4, c4, rfl, _, _⟩ := o3s.formN 0 rfl
      clear o3s
      go_wp2_with fail
      refine (FC.out _ (HA.out.ext X3s.out)).mono ?_; rintro e w5 ⟨rfl, x5⟩
      have X5 := Lib.hid (X3s.out.trans x5)
      clear x5
      go_wp2_with fail
      go_ret
      exact ⟨rfl, X5.out⟩
  · rw [e1] at SLC
    have hfew := hB.few
    have hlen := hB.len
    have hen := hB.enough
    have AC := Lib.hid (fun w' (b : Option Addr) (d : Nat) (h : RdI w' b (selL vs t most)) => RAsc_c (selL vs t most) vs.length b d w' h (by have := hB.sel.len; omega))
    have SC := Lib.hid (fun w' (b : Option Addr) (d : Nat) (h1 : Rd w' a vs) (h2 : RdI w' b (selL vs t most)) => RSum_c vs (selL vs t most) a b c d w' h1 h2 (asc_getD hB.sel) (of_decide_eq_true hsm) (by have := hB.sel.len; omega) (by omega))
    rw [hB.sel] at AC
    rw [hfew] at FC
    have hk24 : k ≤ 24 := by have := hB.sel.len; omega
    obtain ⟨l, hl0⟩ : ∃ l, l = selL vs t most := ⟨_, rfl⟩
    rw [← hl0] at SLC AC SC hlen hen
    obtain ⟨s, hs⟩ : ∃ s, s = sumI vs l := ⟨_, rfl⟩
    rw [← hs] at SC hen
    have HLEN := Lib.hid hlen
    rw [hlen] at AC SC
    have t3 : ((k : Int) == (k : Int)) = true := by simp
    clear hr h0 hsm e1 hB hfew hlen hl0 hs
    go_enter Try.func4, Try.ntmps4
    go_wp2_with fail
    refine (awake50_c _).mono ?_; rintro e w1 ⟨rfl, x1⟩
    have X1 := Lib.hid x1
    clear x1
    go_wp2_with fail
    refine (EC.out _ (HA.out.ext X1.out)).mono ?_; rintro e w2 ⟨rfl, x2⟩
    have X2 := Lib.hid (X1.out.trans x2)
    clear x2
    go_wp2_with fail
    refine (OC.out _ (HA.out.ext X2.out)).mono ?_; rintro e w3 ⟨v3, rfl, o3, x3⟩
    obtain ⟨a3, c3, rfl, _, _, r3⟩ := o3.form
    have R3 := Lib.hid r3
    have X3 := Lib.hid (X2.out.trans x3)
    clear o3 r3 x3
    go_wp2_with fail
    refine (SLC.out _ _ _ R3.out).mono ?_; rintro e w3s ⟨v3s, rfl, o3s, x3s⟩
    have X3s := Lib.hid (X3.out.trans x3s)
    clear x3s
    obtain ⟨a4, c4, rfl, _, r4⟩ := o3s.formN k HLEN.out
    have R4 := Lib.hid r4
    clear o3s r4
    go_wp2_with fail
    refine (FC.out _ (HA.out.ext X3s.out)).mono ?_; rintro e w5 ⟨rfl, x5⟩
    have X5 := Lib.hid x5
    clear x5
    go_wp2_with fail
    refine (AC.out _ _ _ (R4.out.ext X5.out)).mono ?_; rintro e w6 ⟨rfl, x6⟩
    have X6 := Lib.hid (X5.out.trans x6)
    clear x6
    go_wp2_with fail
    refine (SC.out _ _ _ (HA.out.ext (X3s.out.trans X6.out)) (R4.out.ext X6.out)).mono ?_; rintro e w7 ⟨rfl, x7⟩
    have X7 := Lib.hid (X3s.out.trans (X6.out.trans x7))
    clear x7
    go_wp2_with fail
    go_ret
    exact ⟨rfl, X7.out⟩
end Go.Proofs.Ytndiaamoapidoaa
