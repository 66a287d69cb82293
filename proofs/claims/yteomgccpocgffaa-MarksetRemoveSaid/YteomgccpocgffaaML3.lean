/- Walk of MarksetRemove. -/
import Derived.Test.YteomgccpocgffaaMk6
namespace Go.Proofs.Yteomgccpocgffaa
open Go.RowKit
theorem app_less {M l : List Nat} (hM : M.Nodup) (hl : l.Nodup) (h : ∀ x ∈ l, x ∈ M) : (lessL M l ++ l).Perm M := by
  refine List.perm_iff_count.2 fun x => ?_
  have h1 : (lessL M l ++ l).Nodup := by
    rw [List.nodup_append]
    exact ⟨lessL_nodup hM l, hl, fun a ha b hb e => (lessL_mem.1 ha).2 (e ▸ hb)⟩
  rw [h1.count, hM.count]
  congr 1
  rw [List.mem_append, lessL_mem]
  exact propext ⟨fun hh => hh.elim And.left (h x), fun hx => (Classical.em (x ∈ l)).elim Or.inr (fun hn => .inl ⟨hx, hn⟩)⟩
def MaRel (n : Nat) (w : World) (s : Value) (wr : World) : Prop := ∃ j : Nat, s = .int .i64 j ∧ j ≤ n ∧ Ext w wr

set_option maxRecDepth 100000 in
set_option maxHeartbeats 8000000 in
theorem MarksetRemove_w (os : OpL) (a : Option Addr) (c : Nat) (l : List Nat) (ax : Option Addr) (cx : Nat) (w : World) (ha : RdO w a os) (hl : os.length ≤ 9223372036854775807) (hax : Rd w ax l) (hxl : l.length ≤ 9223372036854775807) (hxb : ∀ x ∈ l, x < 18446744073709551616) :
    Calls Try.prog 6 #[.slice a os.length c, .slice ax l.length cx] w fun e w' => e = .returned (.bool true) ∧ Ext w w' := by
  have FC := fun w' (h : RdO w' a os) => few_c os a c w' h hl
  have HA := Lib.hid ha
  have HAX := Lib.hid hax
  have HXB := Lib.hid hxb
  cases hf : fewB os
  case false =>
    rw [hf] at FC
    have HFC := Lib.hid FC
    clear FC ha hf hax hxb
    go_enter Try.func6, Try.ntmps6
    go_wp2_with fail
    refine (awake38_c _).mono ?_; rintro e w1 ⟨rfl, x1⟩
    go_wp2_with fail
    refine (HFC.out _ (HA.out.ext x1)).mono ?_; rintro e w2 ⟨rfl, x2⟩
    have X2 := Lib.hid (x1.trans x2)
    clear x1 x2
    go_wp2_with fail
    go_ret
    exact ⟨rfl, X2.out⟩
  rw [hf] at FC
  have HFC := Lib.hid FC
  have RC := Lib.hid (fun w' (h : RdO w' a os) => run_c os a c w' h hf)
  have hml := runM_len hf os.length (Nat.le_refl _)
  have HASC := Lib.hid (runM_asc os os.length)
  have hl30 : os.length ≤ 30 := by unfold fewB at hf; rw [Bool.and_eq_true] at hf; exact of_decide_eq_true hf.2
  obtain ⟨M, hM⟩ : ∃ M, M = runM os os.length := ⟨_, rfl⟩
  rw [← hM] at RC hml HASC
  have hml2 : M.length ≤ 600 := by omega
  clear FC ha hf hM hml hax hxb
  by_cases h20 : l.length ≤ 20
  case neg =>
    have t1 : decide ((20 : Int) < (l.length : Int)) = true := decide_eq_true (by omega)
    go_enter Try.func6, Try.ntmps6
    go_wp2_with fail
    refine (awake38_c _).mono ?_; rintro e w1 ⟨rfl, x1⟩
    go_wp2_with fail
    refine (HFC.out _ (HA.out.ext x1)).mono ?_; rintro e w2 ⟨rfl, x2⟩
    have X2 := Lib.hid (x1.trans x2)
    clear x1 x2
    go_wp2_with fail
    go_ret
    exact ⟨rfl, X2.out⟩
  have t1 : decide ((20 : Int) < (l.length : Int)) = false := decide_eq_false (by omega)
  have OC := Lib.hid (fun w' (h : Rd w' ax l) => own38_c l ax cx w' h (by omega))
  have SC := Lib.hid (fun w' a' c' ps b (h1 : St w' ps b M) (h2 : Rd w' a' M) => same_c M a' c' ps b w' h1 HASC.out h2 (by omega))
  have AC := fun w' a' c' ps b (h1 : St w' ps b M) (h2 : Rd w' a' l) => Remove_c M l a' c' ps b w' h1 HASC.out.nodup h2 (by omega) HXB.out
  cases hok : remOk M l
  case false =>
    rw [show rRes M l = M from by unfold rRes; rw [hok]; rfl, show rErr M l = 4 from by unfold rErr; rw [hok]; rfl] at AC
    have HAC := Lib.hid AC
    clear AC hok
    go_enter Try.func6, Try.ntmps6
    go_wp2_with fail
    refine (awake38_c _).mono ?_; rintro e w1 ⟨rfl, x1⟩
    go_wp2_with fail
    refine (HFC.out _ (HA.out.ext x1)).mono ?_; rintro e w2 ⟨rfl, x2⟩
    have X2 := Lib.hid (x1.trans x2)
    clear x1 x2
    go_wp2_with fail
    refine (RC.out _ (HA.out.ext X2.out)).mono ?_; rintro e w3 ⟨ps, b, am, cm, rfl, s3, r3, hb0, x3⟩
    have S3 := Lib.hid s3
    have R3 := Lib.hid r3
    have X3 := Lib.hid (X2.out.trans x3)
    have hb : w.heap.size ≤ b := Nat.le_trans X2.out.size hb0
    clear s3 r3 x3 hb0
    go_wp2_with fail
    refine (OC.out _ (HAX.out.ext X3.out)).mono ?_; rintro e w4 ⟨v4, rfl, o4, x4⟩
    obtain ⟨a4, c4, rfl, _, _, r4⟩ := o4.form
    have S4 := Lib.hid (S3.out.ext x4)
    have X4 := Lib.hid (X3.out.trans x4)
    have R4 := Lib.hid (R3.out.ext x4)
    have R4l := Lib.hid r4
    clear x4 o4 r4
    go_wp2_with fail
    refine (HAC.out _ _ _ _ _ S4.out R4l.out).mono ?_; rintro e w5 ⟨rfl, s5, b5⟩
    have S5 := Lib.hid s5
    have R5 := Lib.hid (S4.out.map.rd b5 R4.out)
    have X5 := Lib.hid (b5.ext X4.out hb)
    clear s5 b5
    go_wp2_with fail
    refine (SC.out _ _ _ _ _ S5.out R5.out).mono ?_; rintro e w6 ⟨rfl, x6⟩
    go_wp2_with fail
    go_ret
    exact ⟨rfl, X5.out.trans x6⟩
  rw [show rRes M l = lessL M l from by unfold rRes; rw [hok]; rfl, show rErr M l = 0 from by unfold rErr; rw [hok]; rfl] at AC
  have HAC := Lib.hid AC
  have hsp := remOk_spec hok
  have hp := app_less HASC.out.nodup hsp.1 hsp.2
  have hok2 : addOk (lessL M l) l = true := addOk_mk hsp.1 (fun x hx h => (lessL_mem.1 h).2 hx)
  have hll := lessL_len M l
  have BC := fun w' a' c' ps b (h1 : St w' ps b (lessL M l)) (h2 : Rd w' a' l) => (Add_c (lessL M l) l a' c' ps b w' h1 h2 (by omega) (by omega) HXB.out).mono (R' := AdPost w' ps b M 0) (fun e w'' h => by
    rw [show aRes (lessL M l) l = lessL M l ++ l from by unfold aRes; rw [hok2]; rfl, show aErr (lessL M l) l = 0 from by unfold aErr; rw [hok2]; rfl] at h
    exact ⟨h.1, ⟨h.2.1.cell, h.2.1.map.perm hp⟩, h.2.2⟩)
  have LC := fun w' ps b (h : St w' ps b (lessL M l)) => Len_c (lessL M l) ps b w' h
  have hlen : (lessL M l).length = M.length - l.length ∧ l.length ≤ M.length := by have := hp.length_eq; rw [List.length_append] at this; omega
  rw [hlen.1] at LC
  have t9 : (((M.length - l.length : Nat) : Int) == (M.length : Int) - (l.length : Int)) = true := by simp; omega
  have hle := hlen.2
  have HH1 := Lib.hid (fun j (hj : j < l.length) w' ps b (h : St w' ps b (lessL M l)) => (show Calls _ _ _ w' fun e w'' => e = .returned (.bool false) ∧ Ext w' w'' from by
    have := Has_c (lessL M l) (l.getD j 0) ps b w' h (HXB.out _ (getD_mem hj))
    rw [decide_eq_false (fun h => (lessL_mem.1 h).2 (getD_mem hj))] at this; exact this))
  have HH2 := Lib.hid (fun j (hj : j < l.length) w' a' c' (h : Rd w' a' M) => (show Calls _ _ _ w' fun e w'' => e = .returned (.bool true) ∧ Ext w' w'' from by
    have := RHas_c M (l.getD j 0) a' c' w' h (by omega)
    rw [decide_eq_true (hsp.2 _ (getD_mem hj))] at this; exact this))
  have HBC := Lib.hid BC
  have HLC := Lib.hid LC
  clear AC BC LC hok hok2 hsp hp hll hlen
  go_enter Try.func6, Try.ntmps6
  go_wp2_with fail
  refine (awake38_c _).mono ?_; rintro e w1 ⟨rfl, x1⟩
  go_wp2_with fail
  refine (HFC.out _ (HA.out.ext x1)).mono ?_; rintro e w2 ⟨rfl, x2⟩
  have X2 := Lib.hid (x1.trans x2)
  clear x1 x2
  go_wp2_with fail
  refine (RC.out _ (HA.out.ext X2.out)).mono ?_; rintro e w3 ⟨ps, b, am, cm, rfl, s3, r3, hb0, x3⟩
  have S3 := Lib.hid s3
  have R3 := Lib.hid r3
  have X3 := Lib.hid (X2.out.trans x3)
  have hb : w.heap.size ≤ b := Nat.le_trans X2.out.size hb0
  clear s3 r3 x3 hb0
  go_wp2_with fail
  refine (OC.out _ (HAX.out.ext X3.out)).mono ?_; rintro e w4 ⟨v4, rfl, o4, x4⟩
  obtain ⟨a4, c4, rfl, _, _, r4⟩ := o4.form
  have S4 := Lib.hid (S3.out.ext x4)
  have X4 := Lib.hid (X3.out.trans x4)
  have R4 := Lib.hid (R3.out.ext x4)
  have R4l := Lib.hid r4
  clear x4 o4 r4
  go_wp2_with fail
  refine (HAC.out _ _ _ _ _ S4.out R4l.out).mono ?_; rintro e w5 ⟨rfl, s5, b5⟩
  have S5 := Lib.hid s5
  have R5 := Lib.hid (S4.out.map.rd b5 R4.out)
  have X5 := Lib.hid (b5.ext X4.out hb)
  clear s5 b5
  go_wp2_with fail
  go_loopw [38] (MaRel l.length w5) (fun i _ => l.length - (intOf i).toNat)
  case atStart => exact ⟨0, rfl, Nat.zero_le _, Ext.refl _⟩
  case round =>
    obtain ⟨j, rfl, hj, hx⟩ := hrel
    have HX := Lib.hid hx
    clear hx
    by_cases hlt : j < l.length
    · obtain ⟨ga, oa, rfl, hca⟩ := HAX.out.at (by omega)
      have cj := HX.out.cell (X5.out.cell (hca j hlt))
      have K1 := Lib.hid (HH1.out j hlt)
      have K2 := Lib.hid (HH2.out j hlt)
      obtain ⟨x, hx0⟩ : ∃ x, x = l.getD j 0 := ⟨_, rfl⟩
      rw [← hx0] at cj K1 K2
      clear hca hx0 t9
      go_wp2_with fail
      refine (K1.out _ _ _ (S5.out.ext HX.out)).mono ?_; rintro e w6 ⟨rfl, x6⟩
      go_wp2_with fail
      refine (K2.out _ _ _ ((R5.out.ext HX.out).ext x6)).mono ?_; rintro e w7 ⟨rfl, x7⟩
      have HX7 := Lib.hid (HX.out.trans (x6.trans x7))
      clear x6 x7
      go_wp2_with fail
      go_roundw
      case rel => exact ⟨j + 1, by go_num, by omega, HX7.out⟩
      case measure => simp [intOf]; omega
    · have S6 := Lib.hid (S5.out.ext HX.out)
      have R6 := Lib.hid (R5.out.ext HX.out)
      have X6 := Lib.hid (X5.out.trans HX.out)
      go_wp2_with fail
      refine (HLC.out _ _ _ S6.out).mono ?_; rintro e w7 ⟨rfl, x7⟩
      have S7 := Lib.hid (S6.out.ext x7)
      have R7 := Lib.hid (R6.out.ext x7)
      have X7 := Lib.hid (X6.out.trans x7)
      clear x7
      go_wp2_with fail
      refine (OC.out _ (HAX.out.ext X7.out)).mono ?_; rintro e w8 ⟨v8, rfl, o8, x8⟩
      obtain ⟨a8, c8, rfl, _, _, r8⟩ := o8.form
      have S8 := Lib.hid (S7.out.ext x8)
      have R8 := Lib.hid (R7.out.ext x8)
      have X8 := Lib.hid (X7.out.trans x8)
      have R8l := Lib.hid r8
      clear x8 o8 r8
      go_wp2_with fail
      refine (HBC.out _ _ _ _ _ S8.out R8l.out).mono ?_; rintro e w9 ⟨rfl, s9, b9⟩
      have S9 := Lib.hid s9
      have R9 := Lib.hid (S8.out.map.rd b9 R8.out)
      have X9 := Lib.hid (b9.ext X8.out hb)
      clear s9 b9
      go_wp2_with fail
      refine (SC.out _ _ _ _ _ S9.out R9.out).mono ?_; rintro e w10 ⟨rfl, x10⟩
      go_wp2_with fail
      go_ret
      exact ⟨rfl, X9.out.trans x10⟩
end Go.Proofs.Yteomgccpocgffaa
