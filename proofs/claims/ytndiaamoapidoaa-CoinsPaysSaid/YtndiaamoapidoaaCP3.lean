/- Walk of CoinsPays. -/
import Derived.Test.YtndiaamoapidoaaCoO
namespace Go.Proofs.Ytndiaamoapidoaa
open Go.RowKit

def PyRel (w : World) (n : Nat) (v55 : Value) (wr : World) : Prop := ∃ k : Nat, k ≤ n ∧ v55 = .int .i64 k ∧ Ext w wr
set_option maxRecDepth 100000 in
set_option maxHeartbeats 8000000 in
theorem CoinsPays_w (vs : List Nat) (t : Nat) (most : Int) (a : Option Addr) (c : Nat) (w : World) (ha : Rd w a vs) (hl : vs.length ≤ 9223372036854775807) (_ht : t < 18446744073709551616) :
    Calls Try.prog 9 #[.slice a vs.length c, .int .u64 (t : Int), .int .i64 most] w fun e w' => e = .returned (.bool true) ∧ Ext w w' := by
  have HA := Lib.hid ha
  have EC := Lib.hid (fun w' (h : Rd w' a vs) => RError_c vs most a c w' h hl)
  clear ha
  by_cases hr : rE vs most = 0
  case neg =>
    obtain ⟨ee, he⟩ : ∃ ee, ee = rE vs most := ⟨_, rfl⟩
    rw [← he] at hr EC
    have t1 : (ee == 0) = false := beq_eq_false_iff_ne.2 hr
    clear he
    go_enter Try.func9, Try.ntmps9
    go_wp2_with fail
    refine (awake50_c _).mono ?_; rintro e w1 ⟨rfl, x1⟩
    go_wp2_with fail
    refine (EC.out _ (HA.out.ext x1)).mono ?_; rintro e w2 ⟨rfl, x2⟩
    go_wp2_with fail
    go_ret
    exact ⟨rfl, x1.trans x2⟩
  rw [hr] at EC
  obtain ⟨h0, hm⟩ := rE_ok hr
  obtain ⟨h24, hsm⟩ := exE_zero h0
  have HSM := Lib.hid (of_decide_eq_true hsm)
  have OC := Lib.hid (fun w' (h : Rd w' a vs) => own50_c vs a c w' h (by omega))
  have SLC := Lib.hid (fun w' (a' : Option Addr) (c' : Nat) (h : Rd w' a' vs) => Select_c vs t most a' c' w' h hl)
  rcases sel_spec vs t most h0 hm with ⟨e1, e2, e3, _⟩ | ⟨k, hk, e1, hB⟩
  · rw [e1, e2] at SLC
    clear hr h0 hsm e1 e2 e3
    go_enter Try.func9, Try.ntmps9
    go_wp2_with fail
    refine (awake50_c _).mono ?_; rintro e w1 ⟨rfl, x1⟩
    have X1 := Lib.hid x1
    clear x1
    go_wp2_with fail
    refine (EC.out _ (HA.out.ext X1.out)).mono ?_; rintro e w2 ⟨rfl, x2⟩
    have X2 := Lib.hid (X1.out.trans x2)
    clear x2
    go_wp2_with fail
    refine (OC.out _ (HA.out.ext X2.out)).mono ?_; rintro e w3 ⟨v3, rfl, o3, x3⟩
    obtain ⟨a3, c3, rfl, _, _, r3⟩ := o3.form
    have R3 := Lib.hid r3
    have X3 := Lib.hid (X2.out.trans x3)
    clear o3 r3 x3
    go_wp2_with fail
    refine (SLC.out _ _ _ R3.out).mono ?_; rintro e w3s ⟨v3s, rfl, o3s, x3s⟩
    have X3s := Lib.hid (X3.out.trans x3s)
    clear x3s
    obtain ⟨a4, c4, rfl, _, _⟩ := o3s.formN 0 rfl
    clear o3s
    go_wp2_with fail
    go_ret
    exact ⟨rfl, X3s.out⟩
  · rw [e1] at SLC
    have hlen := hB.len
    have hk24 : k ≤ 24 := by have := hB.sel.len; omega
    have HPAY := Lib.hid hB.pays
    have HASC := Lib.hid (asc_getD hB.sel)
    have AC := Lib.hid (fun w' (b : Option Addr) (d : Nat) (h : RdI w' b (selL vs t most)) => RAsc_c (selL vs t most) vs.length b d w' h (by have := hB.sel.len; omega))
    have CC := Lib.hid (fun w' (a' b' : Option Addr) (c' d' : Nat) (ha : Rd w' a' vs) (hb : RdI w' b' (selL vs t most)) => Change_c vs (selL vs t most) t a' b' c' d' w' ha hb (by have := hB.sel.len; omega) (by omega))
    have ecv : chV vs (selL vs t most) t = sumI vs (selL vs t most) - t := by unfold chV; rw [if_neg]; have := hB.enough; have := hB.sel; rintro (h | h | h); exact h h0; rw [hB.sel] at h; cases h; omega
    have ece : chE vs (selL vs t most) t = 0 := by unfold chE; rw [if_neg (fun h => h h0), if_neg (by rw [hB.sel]; simp), if_neg (by have := hB.enough; omega)]
    rw [ecv, ece] at CC
    rw [hB.sel] at AC
    obtain ⟨l, hl0⟩ : ∃ l, l = selL vs t most := ⟨_, rfl⟩
    rw [← hl0] at SLC AC CC hlen HPAY HASC
    obtain ⟨s, hs⟩ : ∃ s, s = sumI vs l - t := ⟨_, rfl⟩
    rw [← hs] at CC HPAY
    have HLEN := Lib.hid hlen
    rw [hlen] at AC CC
    have HO : Hid (∀ w' : World, OwnI (w'.alloc (.cells #[] 3)) w'.heap.size (.slice (some ⟨w'.heap.size, 0, none⟩) 0 0) []) := Lib.hid (fun w' => by
      have hb : BlkI (w'.alloc (.cells #[] 3)) w'.heap.size (rowAI ([] ++ [])) := BlkI.new _ _
      exact OwnI.ofBlk hb (Nat.le_refl _) (by simp [maxLen]))
    clear hr h0 hsm e1 hB hlen hl0 hs ecv ece
    go_enter Try.func9, Try.ntmps9
    go_wp2_with fail
    refine (awake50_c _).mono ?_; rintro e w1 ⟨rfl, x1⟩
    have X1 := Lib.hid x1
    clear x1
    go_wp2_with fail
    refine (EC.out _ (HA.out.ext X1.out)).mono ?_; rintro e w2 ⟨rfl, x2⟩
    have X2 := Lib.hid (X1.out.trans x2)
    clear x2
    go_wp2_with fail
    refine (OC.out _ (HA.out.ext X2.out)).mono ?_; rintro e w3 ⟨v3, rfl, o3, x3⟩
    obtain ⟨a3, c3, rfl, _, _, r3⟩ := o3.form
    have R3 := Lib.hid r3
    have X3 := Lib.hid (X2.out.trans x3)
    clear o3 r3 x3
    go_wp2_with fail
    refine (SLC.out _ _ _ R3.out).mono ?_; rintro e w3s ⟨v3s, rfl, o3s, x3s⟩
    have X3s := Lib.hid (X3.out.trans x3s)
    clear x3s
    obtain ⟨a4, c4, rfl, _, r4⟩ := o3s.formN k HLEN.out
    have R4 := Lib.hid r4
    clear o3s r4
    go_wp2_with fail
    refine (AC.out _ _ _ R4.out).mono ?_; rintro e w5 ⟨rfl, x5⟩
    have X5 := Lib.hid x5
    clear x5
    go_wp2_with fail
    refine (OC.out _ (HA.out.ext (X3s.out.trans X5.out))).mono ?_; rintro e w6 ⟨v6, rfl, o6, x6⟩
    obtain ⟨a6, c6, rfl, _, _, r6⟩ := o6.form
    have R6 := Lib.hid r6
    have X6 := Lib.hid (X5.out.trans x6)
    clear o6 r6 x6
    have hlk := HLEN.out
    go_wp2_with (at_builtin; refine wpList_appI rfl (.tmp 44) (.tmp 45) rfl w6.heap.size _ _ rfl (HO.out _) a4 l c4 (by rw [HLEN.out]; rfl) ((R4.out.ext X6.out).ext ((Ext.refl _).alloc _)) (by simp; omega) (by simp) ?_; intro v7 w7 o7 x7 _; rw [List.nil_append] at o7; obtain ⟨a7, c7, rfl, _, r7⟩ := o7.formN k HLEN.out; have R7 := Lib.hid r7; have X67 := Lib.hid (x7 w6 ((Ext.refl _).alloc _) (Nat.le_refl _)); clear o7 r7 x7)
    refine (CC.out _ _ _ _ _ (R6.out.ext X67.out) R7.out).mono ?_; rintro e w8 ⟨rfl, x8⟩
    have X8 := Lib.hid (X6.out.trans (X67.out.trans x8))
    clear x8
    go_wp2_with fail
    have R8 := Lib.hid (R4.out.ext X8.out)
    have A8 := Lib.hid (HA.out.ext (X3s.out.trans X8.out))
    go_loopw [55] (PyRel w8 k) (fun i _ => k - (intOf i).toNat)
    case atStart => exact ⟨0, Nat.zero_le _, rfl, Ext.refl _⟩
    case round =>
      obtain ⟨j, hj, rfl, hx⟩ := hrel
      have HX := Lib.hid hx
      by_cases hjk : j < k
      · obtain ⟨h1, h2⟩ := HASC.out j (by omega)
        obtain ⟨gb, ob, rfl, hcb⟩ := R8.out.at (by omega)
        obtain ⟨ga, oa, rfl, hca⟩ := A8.out.at (by omega)
        have cj := hx.cell (hcb j (by omega))
        have hpay := HPAY.out (l.getD j 0) (mem_getDI.2 ⟨j, by omega, rfl⟩)
        obtain ⟨y, hy⟩ : ∃ y, y = (l.getD j 0).toNat := ⟨_, rfl⟩
        have ey : l.getD j 0 = (y : Int) := by omega
        rw [← hy] at hpay
        rw [ey] at cj h2
        have hyl : y < vs.length := by omega
        have cy := hx.cell (hca y hyl)
        obtain ⟨z, hz⟩ : ∃ z, z = vs.getD y 0 := ⟨_, rfl⟩
        rw [← hz] at cy hpay
        clear hx hca hcb hz hy ey h1 hlk
        go_wp2_with fail
        go_roundw
        case rel => exact ⟨j + 1, by omega, by go_num, HX.out⟩
        case measure => simp [intOf]; omega
      · clear hx hlk
        go_wp2_with fail
        go_ret
        exact ⟨rfl, X3s.out.trans (X8.out.trans HX.out)⟩
end Go.Proofs.Ytndiaamoapidoaa
