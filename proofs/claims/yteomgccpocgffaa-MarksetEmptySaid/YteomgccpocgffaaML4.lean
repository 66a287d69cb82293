/- Walk of MarksetEmpty. -/
import Derived.Test.YteomgccpocgffaaMk6
namespace Go.Proofs.Yteomgccpocgffaa
open Go.RowKit
theorem addOk_nil (M : List Nat) : addOk M [] = true := by simp [addOk, anyc, dupl]
theorem remOk_nil (M : List Nat) : remOk M [] = true := by simp [remOk, anyc, dupl]
theorem lessL_self (M : List Nat) : lessL M M = [] := by unfold lessL; rw [List.filter_eq_nil_iff]; intro y hy; simpa using hy

set_option maxRecDepth 100000 in
set_option maxHeartbeats 8000000 in
theorem MarksetEmpty_w (os : OpL) (a : Option Addr) (c : Nat) (w : World) (ha : RdO w a os) (hl : os.length ≤ 9223372036854775807) :
    Calls Try.prog 8 #[.slice a os.length c] w fun e w' => e = .returned (.bool true) ∧ Ext w w' := by
  have FC := fun w' (h : RdO w' a os) => few_c os a c w' h hl
  have HA := Lib.hid ha
  cases hf : fewB os
  case false =>
    rw [hf] at FC
    have HFC := Lib.hid FC
    clear FC ha hf
    go_enter Try.func8, Try.ntmps8
    go_wp2_with fail
    refine (awake38_c _).mono ?_; rintro e w1 ⟨rfl, x1⟩
    go_wp2_with fail
    refine (HFC.out _ (HA.out.ext x1)).mono ?_; rintro e w2 ⟨rfl, x2⟩
    have X2 := Lib.hid (x1.trans x2)
    clear x1 x2
    go_wp2_with fail
    go_ret
    exact ⟨rfl, X2.out⟩
  rw [hf] at FC
  have HFC := Lib.hid FC
  have RC := Lib.hid (fun w' (h : RdO w' a os) => run_c os a c w' h hf)
  have hml := runM_len hf os.length (Nat.le_refl _)
  have HASC := Lib.hid (runM_asc os os.length)
  have hl30 : os.length ≤ 30 := by unfold fewB at hf; rw [Bool.and_eq_true] at hf; exact of_decide_eq_true hf.2
  obtain ⟨M, hM⟩ : ∃ M, M = runM os os.length := ⟨_, rfl⟩
  rw [← hM] at RC hml HASC
  have hml2 : M.length ≤ 600 := by omega
  clear FC ha hf hM hml
  have SC := Lib.hid (fun w' a' c' ps b (h1 : St w' ps b M) (h2 : Rd w' a' M) => same_c M a' c' ps b w' h1 HASC.out h2 (by omega))
  have AC := Lib.hid (fun w' ps b (h1 : St w' ps b M) => Add_lit M [] M 0 0 rfl ⟨by unfold aRes; rw [addOk_nil]; simp, by unfold aErr; rw [addOk_nil]; rfl⟩ none 0 ps b w' h1 (Rd.nil _ _) (by simp) (by omega) (by simp))
  have BC := Lib.hid (fun w' ps b (h1 : St w' ps b M) => Rem_lit M [] M 0 0 rfl ⟨by unfold rRes; rw [remOk_nil]; simp [lessL_nil], by unfold rErr; rw [remOk_nil]; rfl⟩ none 0 ps b w' h1 HASC.out.nodup (Rd.nil _ _) (by simp) (by simp))
  have IC := fun w' ps b (h : St w' ps b M) => List_c M ps b w' h HASC.out.nodup (by omega)
  rw [HASC.out.srt] at IC
  have HIC := Lib.hid IC
  have CC := Lib.hid (fun w' a' c' ps b (h1 : St w' ps b M) (h2 : Rd w' a' M) => Rem_lit M M [] 0 M.length rfl ⟨by unfold rRes; rw [remOk_mk HASC.out.nodup (fun x hx => hx)]; exact lessL_self M, by unfold rErr; rw [remOk_mk HASC.out.nodup (fun x hx => hx)]; rfl⟩ a' c' ps b w' h1 HASC.out.nodup h2 (by omega) h1.map.bd)
  have LC := Lib.hid (fun w' ps b (h : St w' ps b []) => Len_c [] ps b w' h)
  have JC := fun w' ps b (h : St w' ps b []) => List_c [] ps b w' h (by simp) (by simp)
  rw [show srt [] = [] from by simp [srt]] at JC
  have HJC := Lib.hid JC
  have DC := Lib.hid (fun w' a' c' ps b (h1 : St w' ps b []) (h2 : Rd w' a' [1]) => Rem_lit [] [1] [] 4 1 rfl (by decide) a' c' ps b w' h1 (by simp) h2 (by simp) (by simp))
  clear IC JC
  go_enter Try.func8, Try.ntmps8
  go_wp2_with fail
  refine (awake38_c _).mono ?_; rintro e w1 ⟨rfl, x1⟩
  go_wp2_with fail
  refine (HFC.out _ (HA.out.ext x1)).mono ?_; rintro e w2 ⟨rfl, x2⟩
  have X2 := Lib.hid (x1.trans x2)
  clear x1 x2
  go_wp2_with fail
  refine (RC.out _ (HA.out.ext X2.out)).mono ?_; rintro e w3 ⟨ps, b, am, cm, rfl, s3, r3, hb0, x3⟩
  have S3 := Lib.hid s3
  have R3 := Lib.hid r3
  have X3 := Lib.hid (X2.out.trans x3)
  have hb : w.heap.size ≤ b := Nat.le_trans X2.out.size hb0
  clear s3 r3 x3 hb0
  go_wp2_with fail
  refine (AC.out _ _ _ S3.out).mono ?_; rintro e w4 ⟨rfl, s4, b4⟩
  have S4 := Lib.hid s4
  have R4 := Lib.hid (S3.out.map.rd b4 R3.out)
  have X4 := Lib.hid (b4.ext X3.out hb)
  clear s4 b4
  go_wp2_with fail
  refine (BC.out _ _ _ S4.out).mono ?_; rintro e w5 ⟨rfl, s5, b5⟩
  have S5 := Lib.hid s5
  have R5 := Lib.hid (S4.out.map.rd b5 R4.out)
  have X5 := Lib.hid (b5.ext X4.out hb)
  clear s5 b5
  go_wp2_with fail
  refine (SC.out _ _ _ _ _ S5.out R5.out).mono ?_; rintro e w6 ⟨rfl, x6⟩
  have S6 := Lib.hid (S5.out.ext x6)
  have X6 := Lib.hid (X5.out.trans x6)
  clear x6
  go_wp2_with fail
  refine (HIC.out _ _ _ S6.out).mono ?_; rintro e w7 ⟨v7, rfl, o7, x7⟩
  obtain ⟨a7, c7, rfl, _, _, r7⟩ := o7.form
  have S7 := Lib.hid (S6.out.ext x7)
  have X7 := Lib.hid (X6.out.trans x7)
  have R7 := Lib.hid r7
  clear x7 o7 r7
  go_wp2_with fail
  refine (CC.out _ _ _ _ _ S7.out R7.out).mono ?_; rintro e w8 ⟨rfl, s8, b8⟩
  have S8 := Lib.hid s8
  have X8 := Lib.hid (b8.ext X7.out hb)
  clear s8 b8
  go_wp2_with fail
  refine (LC.out _ _ _ S8.out).mono ?_; rintro e w9 ⟨rfl, x9⟩
  have S9 := Lib.hid (S8.out.ext x9)
  have X9 := Lib.hid (X8.out.trans x9)
  clear x9
  go_wp2_with fail
  refine (HJC.out _ _ _ S9.out).mono ?_; rintro e w10 ⟨v10, rfl, o10, x10⟩
  obtain ⟨a10, c10, rfl, _, _⟩ := o10.formN 0 rfl
  have S10 := Lib.hid (S9.out.ext x10)
  have X10 := Lib.hid (X9.out.trans x10)
  clear x10 o10
  go_wp2_with fail
  have e11 := (Ext.refl w10).alloc (.cells #[.int .u64 1] 23)
  refine (DC.out _ _ _ _ _ (S10.out.ext e11) (Rd.one (cnew _ _ _ _ _ rfl))).mono ?_; rintro e w11 ⟨rfl, s11, b11⟩
  have X11 := Lib.hid (b11.ext (X10.out.trans e11) hb)
  clear s11 b11 e11
  go_wp2_with fail
  go_ret
  exact ⟨rfl, X11.out⟩
end Go.Proofs.Yteomgccpocgffaa
