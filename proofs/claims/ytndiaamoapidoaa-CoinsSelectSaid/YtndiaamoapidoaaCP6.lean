/- Walk of CoinsSelect. -/
import Derived.Test.YtndiaamoapidoaaCoP
namespace Go.Proofs.Ytndiaamoapidoaa
open Go.RowKit

theorem rE_ne {vs : List Nat} {most : Int} (t : Nat) (h : rE vs most ≠ 0) : selE vs t most = rE vs most ∧ selL vs t most = [] := by
  unfold rE at h ⊢
  unfold selE selL exE
  by_cases h1 : 24 < vs.length
  · rw [if_pos h1]; rw [if_pos h1]; exact ⟨by rw [if_pos (by decide)], by rw [if_pos (.inl (by decide))]⟩
  · rw [if_neg h1] at h ⊢; rw [if_neg h1]
    by_cases h2 : smallL vs = true
    · rw [if_pos h2] at h ⊢; rw [if_pos h2]
      by_cases h3 : most < 0
      · exact ⟨by rw [if_neg (by decide), if_pos h3, if_pos h3], by rw [if_pos (.inr (.inl h3))]⟩
      · rw [if_neg h3] at h; exact absurd rfl h
    · rw [if_neg h2] at h ⊢; rw [if_neg h2]; exact ⟨by rw [if_pos (by decide)], by rw [if_pos (.inl (by decide))]⟩

set_option maxRecDepth 100000 in
set_option maxHeartbeats 8000000 in
theorem CoinsSelect_w (vs : List Nat) (t : Nat) (most : Int) (a : Option Addr) (c : Nat) (w : World) (ha : Rd w a vs) (hl : vs.length ≤ 9223372036854775807) (ht : t < 18446744073709551616) :
    Calls Try.prog 3 #[.slice a vs.length c, .int .u64 (t : Int), .int .i64 most] w fun e w' => e = .returned (.bool true) ∧ Ext w w' := by
  have HA := Lib.hid ha
  have EC := Lib.hid (fun w' (h : Rd w' a vs) => RError_c vs most a c w' h hl)
  clear ha
  by_cases hA : ¬ vs.length ≤ 10 ∧ vs.length ≤ 24
  · obtain ⟨hA1, hA2⟩ := hA
    go_enter Try.func3, Try.ntmps3
    go_wp2_with fail
    refine (awake50_c _).mono ?_; rintro e w1 ⟨rfl, x1⟩
    have X1 := Lib.hid x1
    clear x1
    go_wp2_with fail
    go_ret
    exact ⟨rfl, X1.out⟩
  by_cases hB : ¬ vs.length ≤ 100
  · have hB1 : ¬ vs.length ≤ 10 := by omega
    have hB2 : ¬ vs.length ≤ 24 := by omega
    go_enter Try.func3, Try.ntmps3
    go_wp2_with fail
    refine (awake50_c _).mono ?_; rintro e w1 ⟨rfl, x1⟩
    have X1 := Lib.hid x1
    clear x1
    go_wp2_with fail
    go_ret
    exact ⟨rfl, X1.out⟩
  have OC := Lib.hid (fun w' (h : Rd w' a vs) => own50_c vs a c w' h (by omega))
  have SLC := Lib.hid (fun w' (a' : Option Addr) (c' : Nat) (h : Rd w' a' vs) => Select_c vs t most a' c' w' h hl)
  by_cases hr : rE vs most = 0
  case neg =>
    obtain ⟨q1, q2⟩ := rE_ne t hr
    rw [q1, q2] at SLC
    obtain ⟨ee, he⟩ : ∃ ee, ee = rE vs most := ⟨_, rfl⟩
    rw [← he] at hr EC SLC
    have t1 : (ee == 0) = false := beq_eq_false_iff_ne.2 hr
    have t2 : (ee == ee) = true := by simp
    clear he q1 q2
    by_cases h10 : vs.length ≤ 10
    · have h24 : vs.length ≤ 24 := by omega
      go_enter Try.func3, Try.ntmps3
      go_wp2_with fail
      refine (awake50_c _).mono ?_; rintro e w1 ⟨rfl, x1⟩
      have X1 := Lib.hid x1
      clear x1
      go_wp2_with fail
      refine (OC.out _ (HA.out.ext X1.out)).mono ?_; rintro e w3 ⟨v3, rfl, o3, x3⟩
      obtain ⟨a3, c3, rfl, _, _, r3⟩ := o3.form
      have R3 := Lib.hid r3
      have X3 := Lib.hid (X1.out.trans x3)
      clear o3 r3 x3
      go_wp2_with fail
      refine (SLC.out _ _ _ R3.out).mono ?_; rintro e w3s ⟨v3s, rfl, o3s, x3s⟩
      have X3s := Lib.hid (X3.out.trans x3s)
      clear x3s
      obtain ⟨a4, c4, rfl, _, _⟩ := o3s.formN 0 rfl
      clear o3s
      go_wp2_with fail
      refine (EC.out _ (HA.out.ext X3s.out)).mono ?_; rintro e w5 ⟨rfl, x5⟩
      have X5 := Lib.hid (X3s.out.trans x5)
      clear x5
      go_wp2_with fail
      go_ret
      exact ⟨rfl, X5.out⟩
    · have h24 : ¬ vs.length ≤ 24 := fun h => hA ⟨h10, h⟩
      go_enter Try.func3, Try.ntmps3
      go_wp2_with fail
      refine (awake50_c _).mono ?_; rintro e w1 ⟨rfl, x1⟩
      have X1 := Lib.hid x1
      clear x1
      go_wp2_with fail
      refine (OC.out _ (HA.out.ext X1.out)).mono ?_; rintro e w3 ⟨v3, rfl, o3, x3⟩
      obtain ⟨a3, c3, rfl, _, _, r3⟩ := o3.form
      have R3 := Lib.hid r3
      have X3 := Lib.hid (X1.out.trans x3)
      clear o3 r3 x3
      go_wp2_with fail
      refine (SLC.out _ _ _ R3.out).mono ?_; rintro e w3s ⟨v3s, rfl, o3s, x3s⟩
      have X3s := Lib.hid (X3.out.trans x3s)
      clear x3s
      obtain ⟨a4, c4, rfl, _, _⟩ := o3s.formN 0 rfl
      clear o3s
      go_wp2_with fail
      refine (EC.out _ (HA.out.ext X3s.out)).mono ?_; rintro e w5 ⟨rfl, x5⟩
      have X5 := Lib.hid (X3s.out.trans x5)
      clear x5
      go_wp2_with fail
      go_ret
      exact ⟨rfl, X5.out⟩
  rw [hr] at EC
  obtain ⟨h0, hm⟩ := rE_ok hr
  obtain ⟨h24, hsm⟩ := exE_zero h0
  have h10 : vs.length ≤ 10 := by omega
  rcases rsel_sel vs t most h0 hm with ⟨e1, e2, e3⟩ | ⟨e1, e3⟩
  · rw [e1, e2] at SLC
    have RC : Hid (∀ w' : World, Rd w' a vs → Calls Try.prog 14 #[.slice a vs.length c, .int .u64 (t : Int), .int .i64 most] w' fun e w'' => ∃ A C, e = .returned (.tuple #[.slice A (0 : Nat) C, .bool false]) ∧ Ext w' w'') := Lib.hid (fun w' h => by
      have q := RSelect_c vs t most a c w' h h10 (of_decide_eq_true hsm)
      rw [e3] at q
      exact q.mono (fun e w'' ⟨A, C, h1, _, h3⟩ => ⟨A, C, h1, h3⟩))
    clear hr h0 hsm e1 e2 e3
    go_enter Try.func3, Try.ntmps3
    go_wp2_with fail
    refine (awake50_c _).mono ?_; rintro e w1 ⟨rfl, x1⟩
    have X1 := Lib.hid x1
    clear x1
    go_wp2_with fail
    refine (OC.out _ (HA.out.ext X1.out)).mono ?_; rintro e w3 ⟨v3, rfl, o3, x3⟩
    obtain ⟨a3, c3, rfl, _, _, r3⟩ := o3.form
    have R3 := Lib.hid r3
    have X3 := Lib.hid (X1.out.trans x3)
    clear o3 r3 x3
    go_wp2_with fail
    refine (SLC.out _ _ _ R3.out).mono ?_; rintro e w3s ⟨v3s, rfl, o3s, x3s⟩
    have X3s := Lib.hid (X3.out.trans x3s)
    clear x3s
    obtain ⟨a4, c4, rfl, _, _⟩ := o3s.formN 0 rfl
    clear o3s
    go_wp2_with fail
    refine (EC.out _ (HA.out.ext X3s.out)).mono ?_; rintro e w5 ⟨rfl, x5⟩
    have X5 := Lib.hid (X3s.out.trans x5)
    clear x5
    go_wp2_with fail
    refine (RC.out _ (HA.out.ext X5.out)).mono ?_; rintro e w6 ⟨a6, c6, rfl, x6⟩
    have X6 := Lib.hid (X5.out.trans x6)
    clear x6
    go_wp2_with fail
    go_ret
    exact ⟨rfl, X6.out⟩
  · rw [e1] at SLC
    have hlen : (selL vs t most).length ≤ 10 := by
      rcases sel_spec vs t most h0 hm with ⟨_, q, _, _⟩ | ⟨k, _, _, hB⟩
      · rw [q]; simp
      · have := hB.sel.len; omega
    have RC : Hid (∀ w' : World, Rd w' a vs → Calls Try.prog 14 #[.slice a vs.length c, .int .u64 (t : Int), .int .i64 most] w' fun e w'' => ∃ A C, e = .returned (.tuple #[.slice A (selL vs t most).length C, .bool true]) ∧ RdI w'' A (selL vs t most) ∧ Ext w' w'') := Lib.hid (fun w' h => by
      have q := RSelect_c vs t most a c w' h h10 (of_decide_eq_true hsm)
      rw [e3] at q
      exact q)
    obtain ⟨l, hl0⟩ : ∃ l, l = selL vs t most := ⟨_, rfl⟩
    rw [← hl0] at SLC RC hlen
    obtain ⟨k, hk⟩ : ∃ k, k = l.length := ⟨_, rfl⟩
    have HLEN : Hid (l.length = k) := Lib.hid hk.symm
    rw [← hk] at RC hlen
    have EQ := Lib.hid (fun (a b : Option Addr) (c d : Nat) (w : World) (ha : RdI w a l) (hb : RdI w b l) => EqualN_c l k HLEN.out a b c d w ha hb (by omega))
    clear hr h0 hsm e1 e3 hl0 hk
    go_enter Try.func3, Try.ntmps3
    go_wp2_with fail
    refine (awake50_c _).mono ?_; rintro e w1 ⟨rfl, x1⟩
    have X1 := Lib.hid x1
    clear x1
    go_wp2_with fail
    refine (OC.out _ (HA.out.ext X1.out)).mono ?_; rintro e w3 ⟨v3, rfl, o3, x3⟩
    obtain ⟨a3, c3, rfl, _, _, r3⟩ := o3.form
    have R3 := Lib.hid r3
    have X3 := Lib.hid (X1.out.trans x3)
    clear o3 r3 x3
    go_wp2_with fail
    refine (SLC.out _ _ _ R3.out).mono ?_; rintro e w3s ⟨v3s, rfl, o3s, x3s⟩
    have X3s := Lib.hid (X3.out.trans x3s)
    clear x3s
    obtain ⟨a4, c4, rfl, _, r4⟩ := o3s.formN k HLEN.out
    have R4 := Lib.hid r4
    clear o3s r4
    go_wp2_with fail
    refine (EC.out _ (HA.out.ext X3s.out)).mono ?_; rintro e w5 ⟨rfl, x5⟩
    have X5 := Lib.hid x5
    clear x5
    go_wp2_with fail
    refine (RC.out _ (HA.out.ext (X3s.out.trans X5.out))).mono ?_; rintro e w6 ⟨a6, c6, rfl, r6, x6⟩
    have X6 := Lib.hid (X5.out.trans x6)
    have R6 := Lib.hid r6
    clear x6 r6
    go_wp2_with fail
    refine (EQ.out _ _ _ _ _ (R4.out.ext X6.out) R6.out).mono ?_; rintro e w7 ⟨rfl, x7⟩
    have X7 := Lib.hid (X3s.out.trans (X6.out.trans x7))
    clear x7
    go_wp2_with fail
    go_ret
    exact ⟨rfl, X7.out⟩
end Go.Proofs.Ytndiaamoapidoaa
