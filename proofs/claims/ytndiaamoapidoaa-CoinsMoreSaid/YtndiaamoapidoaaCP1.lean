/- Walk of CoinsChange. -/
import Derived.Test.YtndiaamoapidoaaCoC
namespace Go.Proofs.Ytndiaamoapidoaa
open Go.RowKit

theorem rE_zero (vs : List Nat) : rE vs 0 = exE vs := by
  unfold rE exE; split
  · rfl
  · split <;> simp
theorem asc_in {n p : Int} {l : List Int} (h : ascF n p l = true) : ∀ x ∈ l, p < x ∧ x < n := by
  induction l generalizing p with
  | nil => intro x hx; cases hx
  | cons y r ih =>
    unfold ascF at h
    split at h
    · cases h
    · rename_i hq
      intro x hx
      rcases List.mem_cons.1 hx with rfl | hx
      · omega
      · have := ih h x hx; omega
theorem asc_getD {n : Nat} {l : List Int} (h : ascF n (-1) l = true) : ∀ i, i < l.length → 0 ≤ l.getD i 0 ∧ l.getD i 0 < n := getD_inI (fun x hx => by have := asc_in h x hx; omega)

theorem sumI_le {vs : List Nat} (hsm : ∀ i, i < vs.length → vs.getD i 0 ≤ 4294967295) : ∀ {l : List Int}, (∀ i, i < l.length → 0 ≤ l.getD i 0 ∧ l.getD i 0 < (vs.length : Int)) → sumI vs l ≤ 4294967295 * l.length
  | [], _ => by simp [sumI]
  | x :: r, h => by
    have h0 := h 0 (by simp)
    have h1 := sumI_le hsm (l := r) (fun i hi => by have := h (i + 1) (by simp; omega); simpa using this)
    have h2 := hsm x.toNat (by have : (x :: r).getD 0 0 = x := rfl
                               omega)
    show vs.getD x.toNat 0 + sumI vs r ≤ _
    simp only [List.length_cons]
    omega

set_option maxRecDepth 100000 in
set_option maxHeartbeats 8000000 in
theorem CoinsChange_w (vs : List Nat) (l : List Int) (t : Nat) (a b : Option Addr) (c d : Nat) (w : World) (ha : Rd w a vs) (hb : RdI w b l) (hl : vs.length ≤ 9223372036854775807) (hll : l.length ≤ 9223372036854775807) (ht : t < 18446744073709551616) :
    Calls Try.prog 8 #[.slice a vs.length c, .slice b l.length d, .int .u64 (t : Int)] w fun e w' => e = .returned (.bool true) ∧ Ext w w' := by
  have HA := Lib.hid ha
  have HB := Lib.hid hb
  clear ha hb
  by_cases h1 : 100 < vs.length
  · go_enter Try.func8, Try.ntmps8
    go_wp2_with fail
    refine (awake50_c _).mono ?_; rintro e w1 ⟨rfl, x1⟩
    go_wp2_with fail
    go_ret
    exact ⟨rfl, x1⟩
  by_cases h2 : 100 < l.length
  · go_enter Try.func8, Try.ntmps8
    go_wp2_with fail
    refine (awake50_c _).mono ?_; rintro e w1 ⟨rfl, x1⟩
    go_wp2_with fail
    go_ret
    exact ⟨rfl, x1⟩
  have CC := Lib.hid (fun w' (a' b' : Option Addr) (c' d' : Nat) (ha : Rd w' a' vs) (hb : RdI w' b' l) => Change_c vs l t a' b' c' d' w' ha hb (by omega) (by omega))
  have EC := Lib.hid (fun w' (h : Rd w' a vs) => RError_c vs 0 a c w' h hl)
  have AC := Lib.hid (fun w' (h : RdI w' b l) => RAsc_c l vs.length b d w' h (by omega))
  have OC := Lib.hid (fun w' (h : Rd w' a vs) => own50_c vs a c w' h (by omega))
  rw [rE_zero] at EC
  obtain ⟨cv, hcv⟩ : ∃ x, x = chV vs l t := ⟨_, rfl⟩
  obtain ⟨ce, hce⟩ : ∃ x, x = chE vs l t := ⟨_, rfl⟩
  rw [← hcv, ← hce] at CC
  have HO : Hid (∀ w' : World, OwnI (w'.alloc (.cells #[] 3)) w'.heap.size (.slice (some ⟨w'.heap.size, 0, none⟩) 0 0) []) := Lib.hid (fun w' => by
    have hb : BlkI (w'.alloc (.cells #[] 3)) w'.heap.size (rowAI ([] ++ [])) := BlkI.new _ _
    exact OwnI.ofBlk hb (Nat.le_refl _) (by simp [maxLen]))
  -- the head of every way
  have key : (exE vs ≠ 0 ∧ cv = 0 ∧ ce = exE vs) ∨ (exE vs = 0 ∧ ascF vs.length (-1) l = false ∧ cv = 0 ∧ ce = 1) ∨ (exE vs = 0 ∧ ascF vs.length (-1) l = true ∧ sumI vs l < t ∧ cv = 0 ∧ ce = 15) ∨ (exE vs = 0 ∧ ascF vs.length (-1) l = true ∧ ¬ sumI vs l < t ∧ cv = sumI vs l - t ∧ ce = 0) := by
    rw [hcv, hce]; unfold chV chE
    by_cases q1 : exE vs = 0
    · by_cases q2 : ascF vs.length (-1) l = false
      · right; left; simp [q1, q2]
      · have q2' : ascF vs.length (-1) l = true := by simpa using q2
        by_cases q3 : sumI vs l < t
        · right; right; left; simp [q1, q2', q3]
        · right; right; right; simp [q1, q2', q3]
    · left; simp [q1]
  clear hcv hce
  rcases key with ⟨q1, rfl, rfl⟩ | ⟨q1, q2, rfl, rfl⟩ | ⟨q1, q2, q3, rfl, rfl⟩ | ⟨q1, q2, q3, rfl, rfl⟩
  · obtain ⟨ee, he⟩ : ∃ ee, ee = exE vs := ⟨_, rfl⟩
    rw [← he] at q1 CC EC
    have t1 : (ee == 0) = false := beq_eq_false_iff_ne.2 q1
    have t2 : (ee == ee) = true := by simp
    clear he q1
    go_enter Try.func8, Try.ntmps8
    go_wp2_with fail
    refine (awake50_c _).mono ?_; rintro e w1 ⟨rfl, x1⟩
    have X1 := Lib.hid x1
    clear x1
    go_wp2_with fail
    refine (OC.out _ (HA.out.ext X1.out)).mono ?_; rintro e w2 ⟨v2, rfl, o2, x2⟩
    obtain ⟨a2, c2, rfl, _, _, r2⟩ := o2.form
    have R2 := Lib.hid r2
    have X2 := Lib.hid (X1.out.trans x2)
    clear o2 r2 x2
    go_wp2_with (at_builtin; refine wpList_appI rfl (.tmp 24) (.tmp 25) rfl w2.heap.size _ _ rfl (HO.out _) b l d rfl ((HB.out.ext X2.out).ext ((Ext.refl _).alloc _)) (by simp; omega) (by simp) ?_; intro v3 w3 o3 x3 _; rw [List.nil_append] at o3; obtain ⟨a3, c3, rfl, _, _, r3⟩ := o3.form; have R3 := Lib.hid r3; have X23 := Lib.hid (x3 w2 ((Ext.refl _).alloc _) (Nat.le_refl _)); have X3 := Lib.hid (X2.out.trans (x3 w2 ((Ext.refl _).alloc _) (Nat.le_refl _))); clear o3 r3 x3)
    refine (CC.out _ _ _ _ _ (R2.out.ext X23.out) R3.out).mono ?_; rintro e w4 ⟨rfl, x4⟩
    have X4' := Lib.hid (X3.out.trans x4)
    clear x4
    go_wp2_with fail
    refine (EC.out _ (HA.out.ext X4'.out)).mono ?_; rintro e w5 ⟨rfl, x5⟩
    have X4 := Lib.hid (X4'.out.trans x5)
    clear x5
    go_wp2_with fail
    go_ret
    exact ⟨rfl, X4.out⟩
  · rw [q1] at EC
    rw [q2] at AC
    clear q1 q2
    go_enter Try.func8, Try.ntmps8
    go_wp2_with fail
    refine (awake50_c _).mono ?_; rintro e w1 ⟨rfl, x1⟩
    have X1 := Lib.hid x1
    clear x1
    go_wp2_with fail
    refine (OC.out _ (HA.out.ext X1.out)).mono ?_; rintro e w2 ⟨v2, rfl, o2, x2⟩
    obtain ⟨a2, c2, rfl, _, _, r2⟩ := o2.form
    have R2 := Lib.hid r2
    have X2 := Lib.hid (X1.out.trans x2)
    clear o2 r2 x2
    go_wp2_with (at_builtin; refine wpList_appI rfl (.tmp 24) (.tmp 25) rfl w2.heap.size _ _ rfl (HO.out _) b l d rfl ((HB.out.ext X2.out).ext ((Ext.refl _).alloc _)) (by simp; omega) (by simp) ?_; intro v3 w3 o3 x3 _; rw [List.nil_append] at o3; obtain ⟨a3, c3, rfl, _, _, r3⟩ := o3.form; have R3 := Lib.hid r3; have X23 := Lib.hid (x3 w2 ((Ext.refl _).alloc _) (Nat.le_refl _)); have X3 := Lib.hid (X2.out.trans (x3 w2 ((Ext.refl _).alloc _) (Nat.le_refl _))); clear o3 r3 x3)
    refine (CC.out _ _ _ _ _ (R2.out.ext X23.out) R3.out).mono ?_; rintro e w4 ⟨rfl, x4⟩
    have X4' := Lib.hid (X3.out.trans x4)
    clear x4
    go_wp2_with fail
    refine (EC.out _ (HA.out.ext X4'.out)).mono ?_; rintro e w5 ⟨rfl, x5⟩
    have X4 := Lib.hid (X4'.out.trans x5)
    clear x5
    go_wp2_with fail
    refine (AC.out _ (HB.out.ext X4.out)).mono ?_; rintro e w5 ⟨rfl, x5⟩
    have X5 := Lib.hid (X4.out.trans x5)
    clear x5
    go_wp2_with fail
    go_ret
    exact ⟨rfl, X5.out⟩
  · have SC := Lib.hid (fun w' (ha : Rd w' a vs) (hb : RdI w' b l) => RSum_c vs l a b c d w' ha hb (asc_getD q2) (of_decide_eq_true (exE_zero q1).2) (by omega) (by omega))
    rw [q1] at EC
    rw [q2] at AC
    obtain ⟨s, hs⟩ : ∃ s, s = sumI vs l := ⟨_, rfl⟩
    rw [← hs] at SC q3
    clear q1 q2 hs
    go_enter Try.func8, Try.ntmps8
    go_wp2_with fail
    refine (awake50_c _).mono ?_; rintro e w1 ⟨rfl, x1⟩
    have X1 := Lib.hid x1
    clear x1
    go_wp2_with fail
    refine (OC.out _ (HA.out.ext X1.out)).mono ?_; rintro e w2 ⟨v2, rfl, o2, x2⟩
    obtain ⟨a2, c2, rfl, _, _, r2⟩ := o2.form
    have R2 := Lib.hid r2
    have X2 := Lib.hid (X1.out.trans x2)
    clear o2 r2 x2
    go_wp2_with (at_builtin; refine wpList_appI rfl (.tmp 24) (.tmp 25) rfl w2.heap.size _ _ rfl (HO.out _) b l d rfl ((HB.out.ext X2.out).ext ((Ext.refl _).alloc _)) (by simp; omega) (by simp) ?_; intro v3 w3 o3 x3 _; rw [List.nil_append] at o3; obtain ⟨a3, c3, rfl, _, _, r3⟩ := o3.form; have R3 := Lib.hid r3; have X23 := Lib.hid (x3 w2 ((Ext.refl _).alloc _) (Nat.le_refl _)); have X3 := Lib.hid (X2.out.trans (x3 w2 ((Ext.refl _).alloc _) (Nat.le_refl _))); clear o3 r3 x3)
    refine (CC.out _ _ _ _ _ (R2.out.ext X23.out) R3.out).mono ?_; rintro e w4 ⟨rfl, x4⟩
    have X4' := Lib.hid (X3.out.trans x4)
    clear x4
    go_wp2_with fail
    refine (EC.out _ (HA.out.ext X4'.out)).mono ?_; rintro e w5 ⟨rfl, x5⟩
    have X4 := Lib.hid (X4'.out.trans x5)
    clear x5
    go_wp2_with fail
    refine (AC.out _ (HB.out.ext X4.out)).mono ?_; rintro e w5 ⟨rfl, x5⟩
    have X5 := Lib.hid (X4.out.trans x5)
    clear x5
    go_wp2_with fail
    refine (SC.out _ (HA.out.ext X5.out) (HB.out.ext X5.out)).mono ?_; rintro e w6 ⟨rfl, x6⟩
    have X6 := Lib.hid (X5.out.trans x6)
    clear x6
    go_wp2_with fail
    go_ret
    exact ⟨rfl, X6.out⟩
  · have SC := Lib.hid (fun w' (ha : Rd w' a vs) (hb : RdI w' b l) => RSum_c vs l a b c d w' ha hb (asc_getD q2) (of_decide_eq_true (exE_zero q1).2) (by omega) (by omega))
    have hsb := sumI_le (of_decide_eq_true (exE_zero q1).2) (asc_getD q2)
    rw [q1] at EC
    rw [q2] at AC
    obtain ⟨s, hs⟩ : ∃ s, s = sumI vs l := ⟨_, rfl⟩
    rw [← hs] at SC q3 CC hsb
    have q4 : t ≤ s := by omega
    have t3 : (((s - t : Nat) : Int) == (s : Int) - (t : Int)) = true := by simp; omega
    clear q1 q2 hs q3
    go_enter Try.func8, Try.ntmps8
    go_wp2_with fail
    refine (awake50_c _).mono ?_; rintro e w1 ⟨rfl, x1⟩
    have X1 := Lib.hid x1
    clear x1
    go_wp2_with fail
    refine (OC.out _ (HA.out.ext X1.out)).mono ?_; rintro e w2 ⟨v2, rfl, o2, x2⟩
    obtain ⟨a2, c2, rfl, _, _, r2⟩ := o2.form
    have R2 := Lib.hid r2
    have X2 := Lib.hid (X1.out.trans x2)
    clear o2 r2 x2
    go_wp2_with (at_builtin; refine wpList_appI rfl (.tmp 24) (.tmp 25) rfl w2.heap.size _ _ rfl (HO.out _) b l d rfl ((HB.out.ext X2.out).ext ((Ext.refl _).alloc _)) (by simp; omega) (by simp) ?_; intro v3 w3 o3 x3 _; rw [List.nil_append] at o3; obtain ⟨a3, c3, rfl, _, _, r3⟩ := o3.form; have R3 := Lib.hid r3; have X23 := Lib.hid (x3 w2 ((Ext.refl _).alloc _) (Nat.le_refl _)); have X3 := Lib.hid (X2.out.trans (x3 w2 ((Ext.refl _).alloc _) (Nat.le_refl _))); clear o3 r3 x3)
    refine (CC.out _ _ _ _ _ (R2.out.ext X23.out) R3.out).mono ?_; rintro e w4 ⟨rfl, x4⟩
    have X4' := Lib.hid (X3.out.trans x4)
    clear x4
    go_wp2_with fail
    refine (EC.out _ (HA.out.ext X4'.out)).mono ?_; rintro e w5 ⟨rfl, x5⟩
    have X4 := Lib.hid (X4'.out.trans x5)
    clear x5
    go_wp2_with fail
    refine (AC.out _ (HB.out.ext X4.out)).mono ?_; rintro e w5 ⟨rfl, x5⟩
    have X5 := Lib.hid (X4.out.trans x5)
    clear x5
    go_wp2_with fail
    refine (SC.out _ (HA.out.ext X5.out) (HB.out.ext X5.out)).mono ?_; rintro e w6 ⟨rfl, x6⟩
    have X6 := Lib.hid (X5.out.trans x6)
    clear x6
    go_wp2_with fail
    go_ret
    exact ⟨rfl, X6.out⟩
end Go.Proofs.Ytndiaamoapidoaa
