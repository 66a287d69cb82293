/- Walk of CoinsLeast. -/
import Derived.Test.YtndiaamoapidoaaCoP
namespace Go.Proofs.Ytndiaamoapidoaa
open Go.RowKit

def LsRel (w : World) (n : Nat) (v : Value) (wr : World) : Prop := ∃ k : Nat, k ≤ n ∧ v = .int .i64 k ∧ Ext w wr
set_option maxRecDepth 100000 in
set_option maxHeartbeats 8000000 in
theorem CoinsLeast_w (vs : List Nat) (t : Nat) (most : Int) (a : Option Addr) (c : Nat) (w : World) (ha : Rd w a vs) (hl : vs.length ≤ 9223372036854775807) (ht : t < 18446744073709551616) :
    Calls Try.prog 7 #[.slice a vs.length c, .int .u64 (t : Int), .int .i64 most] w fun e w' => e = .returned (.bool true) ∧ Ext w w' := by
  have HA := Lib.hid ha
  have EC := Lib.hid (fun w' (h : Rd w' a vs) => RError_c vs most a c w' h hl)
  clear ha
  by_cases hr : rE vs most = 0
  case neg =>
    obtain ⟨ee, he⟩ : ∃ ee, ee = rE vs most := ⟨_, rfl⟩
    rw [← he] at hr EC
    have t1 : (ee == 0) = false := beq_eq_false_iff_ne.2 hr
    clear he
    go_enter Try.func7, Try.ntmps7
    go_wp2_with fail
    refine (awake50_c _).mono ?_; rintro e w1 ⟨rfl, x1⟩
    go_wp2_with fail
    refine (EC.out _ (HA.out.ext x1)).mono ?_; rintro e w2 ⟨rfl, x2⟩
    go_wp2_with fail
    go_ret
    exact ⟨rfl, x1.trans x2⟩
  rw [hr] at EC
  obtain ⟨h0, hm⟩ := rE_ok hr
  obtain ⟨h24, hsm⟩ := exE_zero h0
  have HSM := Lib.hid (of_decide_eq_true hsm)
  have OC := Lib.hid (fun w' (h : Rd w' a vs) => own50_c vs a c w' h (by omega))
  have SLC := Lib.hid (fun w' (a' : Option Addr) (c' : Nat) (h : Rd w' a' vs) => Select_c vs t most a' c' w' h hl)
  rcases sel_spec vs t most h0 hm with ⟨e1, e2, e3, _⟩ | ⟨k, hk, e1, hB⟩
  · rw [e1, e2] at SLC
    clear hr h0 hsm e1 e2 e3
    go_enter Try.func7, Try.ntmps7
    go_wp2_with fail
    refine (awake50_c _).mono ?_; rintro e w1 ⟨rfl, x1⟩
    have X1 := Lib.hid x1
    clear x1
    go_wp2_with fail
    refine (EC.out _ (HA.out.ext X1.out)).mono ?_; rintro e w2 ⟨rfl, x2⟩
    have X2 := Lib.hid (X1.out.trans x2)
    clear x2
    go_wp2_with fail
    refine (OC.out _ (HA.out.ext X2.out)).mono ?_; rintro e w3 ⟨v3, rfl, o3, x3⟩
    obtain ⟨a3, c3, rfl, _, _, r3⟩ := o3.form
    have R3 := Lib.hid r3
    have X3 := Lib.hid (X2.out.trans x3)
    clear o3 r3 x3
    go_wp2_with fail
    refine (SLC.out _ _ _ R3.out).mono ?_; rintro e w3s ⟨v3s, rfl, o3s, x3s⟩
    have X3s := Lib.hid (X3.out.trans x3s)
    clear x3s
    obtain ⟨a4, c4, rfl, _, _⟩ := o3s.formN 0 rfl
    clear o3s
    go_wp2_with fail
    go_ret
    exact ⟨rfl, X3s.out⟩
  · rw [e1] at SLC
    have hlen := hB.len
    have hk24 : k ≤ 24 := by have := hB.sel.len; omega
    have hsl : sumI vs (selL vs t most) ≤ 4294967295 * 24 := by
      have := sumI_le (of_decide_eq_true hsm) (asc_getD hB.sel)
      have := hB.sel.len
      have : (selL vs t most).length ≤ 24 := by omega
      omega
    have HSW := Lib.hid (fun (x : Int) (hx : x ∈ selL vs t most) (j : Nat) (hj : j < vs.length) (hjl : ¬ (j : Int) ∈ selL vs t most) => hB.swap hx hj hjl)
    have HASC := Lib.hid (asc_getD hB.sel)
    have AC := Lib.hid (fun w' (b : Option Addr) (d : Nat) (h : RdI w' b (selL vs t most)) => RAsc_c (selL vs t most) vs.length b d w' h (by have := hB.sel.len; omega))
    have SC := Lib.hid (fun w' (b : Option Addr) (d : Nat) (h1 : Rd w' a vs) (h2 : RdI w' b (selL vs t most)) => RSum_c vs (selL vs t most) a b c d w' h1 h2 (asc_getD hB.sel) (of_decide_eq_true hsm) (by have := hB.sel.len; omega) (by omega))
    have CI := Lib.hid (fun w' (y : Int) (b : Option Addr) (d : Nat) (h : RdI w' b (selL vs t most)) => ContainsI_c (selL vs t most) y b d w' h (by have := hB.sel.len; omega))
    rw [hB.sel] at AC
    obtain ⟨l, hl0⟩ : ∃ l, l = selL vs t most := ⟨_, rfl⟩
    rw [← hl0] at SLC AC SC CI HSW HASC hlen hsl
    obtain ⟨s, hs⟩ : ∃ s, s = sumI vs l := ⟨_, rfl⟩
    rw [← hs] at SC HSW hsl
    have HLEN := Lib.hid hlen
    rw [hlen] at AC SC CI
    clear hr h0 hsm e1 hB hlen hl0 hs
    go_enter Try.func7, Try.ntmps7
    go_wp2_with fail
    refine (awake50_c _).mono ?_; rintro e w1 ⟨rfl, x1⟩
    have X1 := Lib.hid x1
    clear x1
    go_wp2_with fail
    refine (EC.out _ (HA.out.ext X1.out)).mono ?_; rintro e w2 ⟨rfl, x2⟩
    have X2 := Lib.hid (X1.out.trans x2)
    clear x2
    go_wp2_with fail
    refine (OC.out _ (HA.out.ext X2.out)).mono ?_; rintro e w3 ⟨v3, rfl, o3, x3⟩
    obtain ⟨a3, c3, rfl, _, _, r3⟩ := o3.form
    have R3 := Lib.hid r3
    have X3 := Lib.hid (X2.out.trans x3)
    clear o3 r3 x3
    go_wp2_with fail
    refine (SLC.out _ _ _ R3.out).mono ?_; rintro e w3s ⟨v3s, rfl, o3s, x3s⟩
    have X3s := Lib.hid (X3.out.trans x3s)
    clear x3s
    obtain ⟨a4, c4, rfl, _, r4⟩ := o3s.formN k HLEN.out
    have R4 := Lib.hid r4
    clear o3s r4
    go_wp2_with fail
    refine (AC.out _ _ _ R4.out).mono ?_; rintro e w5 ⟨rfl, x5⟩
    have X5 := Lib.hid x5
    clear x5
    go_wp2_with fail
    refine (SC.out _ _ _ (HA.out.ext (X3s.out.trans X5.out)) (R4.out.ext X5.out)).mono ?_; rintro e w8 ⟨rfl, x8⟩
    have X8 := Lib.hid (X5.out.trans x8)
    clear x8
    have R8 := Lib.hid (R4.out.ext X8.out)
    have A8 := Lib.hid (HA.out.ext (X3s.out.trans X8.out))
    have XE := Lib.hid (X3s.out.trans X8.out)
    go_wp2_with fail
    go_loopw [40] (LsRel w8 k) (fun i _ => k - (intOf i).toNat)
    case atStart => exact ⟨0, Nat.zero_le _, rfl, Ext.refl _⟩
    case round =>
      obtain ⟨j, hj, rfl, hx⟩ := hrel
      have HX := Lib.hid hx
      by_cases hjk : j < k
      · have hjl : j < l.length := by rw [HLEN.out]; exact hjk
        obtain ⟨h1, h2⟩ := HASC.out j hjl
        obtain ⟨gb, ob, hgb, hcb⟩ := R8.out.at (show 0 < l.length by omega)
        subst hgb
        have cj := hx.cell (hcb j hjl)
        have hmem := mem_getDI.2 ⟨j, hjl, rfl⟩
        obtain ⟨y, hy⟩ : ∃ y, y = (l.getD j 0).toNat := ⟨_, rfl⟩
        have ey : l.getD j 0 = (y : Int) := by omega
        rw [ey] at cj h2 hmem
        have HMEM := Lib.hid hmem
        have hyl : y < vs.length := by omega
        clear hx hcb hy ey h1 hjl hmem
        go_wp2_with fail
        go_loopw [46] (LsRel wr vs.length) (fun i _ => vs.length - (intOf i).toNat)
        case atStart => exact ⟨0, Nat.zero_le _, rfl, Ext.refl _⟩
        case round =>
          obtain ⟨i, hi, rfl, hxi⟩ := hrel
          have HXI := Lib.hid hxi
          by_cases hik : i < vs.length
          · obtain ⟨ga, oa, hga, hca⟩ := A8.out.at (show 0 < vs.length by omega)
            subst hga
            have cy := (HX.out.trans hxi).cell (hca y hyl)
            have ci := (HX.out.trans hxi).cell (hca i hik)
            have hz := HSW.out y HMEM.out i hik
            rw [show ((y : Int)).toNat = y from by omega] at hz
            obtain ⟨zi, hzi⟩ : ∃ z, z = vs.getD i 0 := ⟨_, rfl⟩
            obtain ⟨zy, hzy⟩ : ∃ z, z = vs.getD y 0 := ⟨_, rfl⟩
            have hzb : zi ≤ 4294967295 := by rw [hzi]; exact HSM.out i hik
            rw [← hzi] at ci hz
            rw [← hzy] at cy hz
            have CE := Lib.hid (CI.out _ (i : Int) _ c4 ((R8.out.ext HX.out).ext hxi))
            have CY := Lib.hid (fun (w' : World) (h : Ext _ w') => h.cell cy)
            clear hxi hca hzi hzy
            go_wp2_with fail
            refine CE.out.mono ?_; rintro e w9 ⟨rfl, x9⟩
            have cy9 := CY.out _ x9
            clear cy ci
            by_cases hmm : (i : Int) ∈ l
            · rw [decide_eq_true hmm]
              clear hmm hz
              go_wp2_with fail
              go_roundw
              case rel => exact ⟨i + 1, by omega, by go_num, HXI.out.trans x9⟩
              case measure => simp [intOf]; omega
            · rw [decide_eq_false hmm]
              obtain ⟨hz1, hz2, hz3⟩ := hz hmm
              clear hmm hz
              by_cases hzz : zi < zy
              · have hz4 : s - zy + zi < t := by omega
                have hz5 : ((zi : Int) == (zy : Int)) = false := beq_eq_false_iff_ne.2 (by omega)
                clear hz2 hz3
                go_wp2_with fail
                go_roundw
                case rel => exact ⟨i + 1, by omega, by go_num, HXI.out.trans x9⟩
                case measure => simp [intOf]; omega
              · by_cases hze : zi = zy
                · subst hze
                  have hz4 : ¬ i < y := by omega
                  clear hz2 hz3
                  go_wp2_with fail
                  go_roundw
                  case rel => exact ⟨i + 1, by omega, by go_num, HXI.out.trans x9⟩
                  case measure => simp [intOf]; omega
                · have hz5 : ((zi : Int) == (zy : Int)) = false := beq_eq_false_iff_ne.2 (by omega)
                  clear hz2 hz3
                  go_wp2_with fail
                  go_roundw
                  case rel => exact ⟨i + 1, by omega, by go_num, HXI.out.trans x9⟩
                  case measure => simp [intOf]; omega
          · clear hxi
            go_wp2_with fail
            go_roundw
            case rel => exact ⟨j + 1, by omega, by go_num, HX.out.trans HXI.out⟩
            case measure => simp [intOf]; omega
      · clear hx
        go_wp2_with fail
        go_ret
        exact ⟨rfl, XE.out.trans HX.out⟩
end Go.Proofs.Ytndiaamoapidoaa
