/- Contracts of package poly: Mul. -/
import Derived.Test.YtcnbinjoeilfgaaPoly2
namespace Go.Proofs.Ytcnbinjoeilfgaa
open Go.RowKit

def MOuter (p : Nat) (a b : List Nat) (n : Nat) (w0 : World) (g : Nat) (s : Value) (wr : World) : Prop :=
  ∃ i : Nat, s = .int .i64 i ∧ i ≤ a.length ∧ Arr wr g (tab n (mout p a b i)) n ∧ Ext w0 wr
def MInner (p : Nat) (R : Nat → Nat) (i x : Nat) (b : List Nat) (n : Nat) (w0 : World) (g : Nat) (s : Value) (wr : World) : Prop :=
  ∃ k : Nat, s = .int .i64 k ∧ k ≤ b.length ∧ Arr wr g (tab n (mrow p R i x b k)) n ∧ Ext w0 wr

set_option maxHeartbeats 2000000 in
theorem MulP_c (p : Nat) (l m : List Nat) (a b : Option Addr) (c d : Nat) (w : World) (ha : Rd w a l) (hb : Rd w b m) (hl : l.length ≤ 100000) (hm : m.length ≤ 100000) :
    Calls Try.prog 28 #[.agg #[.int .u64 p], .slice a l.length c, .slice b m.length d] w (SlPost w (pmul p l m)) := by
  have hA := trimP_le p l
  have hB := trimP_le p m
  have hmul : pmul p l m = if (trimP p l).length = 0 ∨ (trimP p m).length = 0 then [] else trimZ (tab ((trimP p l).length + (trimP p m).length - 1) (mout p (trimP p l) (trimP p m) (trimP p l).length)) := rfl
  have T1 := fun w' (h : Ext (w.alloc (.cells #[.int .u64 p] 29)) w') => Trim_c p l a c w' (ha.ext h.box) (by omega)
  have T2 := fun w' (h : Ext (w.alloc (.cells #[.int .u64 p] 29)) w') => Trim_c p m b d w' (hb.ext h.box) (by omega)
  have HT1 := Lib.hid T1
  have HT2 := Lib.hid T2
  obtain ⟨A, hA0⟩ : ∃ A, A = trimP p l := ⟨_, rfl⟩
  obtain ⟨B, hB0⟩ : ∃ B, B = trimP p m := ⟨_, rfl⟩
  rw [← hA0] at hA hmul HT1
  rw [← hB0] at hB hmul HT2
  have HM := Lib.hid hmul
  clear T1 T2 hA0 hB0 hmul ha hb
  go_enter Try.func28, Try.ntmps28
  go_wp2
  have hc : (w.alloc (.cells #[.int .u64 p] 29)).cell? ⟨w.heap.size, 0, none⟩ = some (.int .u64 p) := by simp
  refine region_facts [[], [], [(0, 12), (1, 13)], [], [], [(3, 15), (4, 16)], [(2, 14)], [(5, 17)]] [some 12, some 13, some 14, some 15, some 16, some 17, some 1, some 2] (by kernel_rfl) (by kernel_rfl) ?_
  apply From.eq
  · intro w' hx; have hcx := hx.cell hc; dsimp only [DepsV, fat, List.nil_append, List.cons_append, eqF]; go_wp2; exact OpPost.some _ rfl rfl (Ext.refl _) rfl
  apply From.eq
  · intro w' hx; have hcx := hx.cell hc; dsimp only [DepsV, fat, List.nil_append, List.cons_append, eqF]; go_wp2; exact OpPost.some _ rfl rfl (Ext.refl _) rfl
  refine From.step (OwnF w.heap.size A) (OwnF.mono) ?_ ?_
  · intro w' hx; have hcx := hx.cell hc; dsimp only [DepsV, fat, List.nil_append, List.cons_append, eqF]; rintro _ rfl _ rfl; skip;
    go_wp2_with (go_at_call 27; refine (HT1.out _ hx).mono ?_; rintro e w2 ⟨v, rfl, ho, hn⟩); exact OpPost.some _ rfl rfl hn (ho.base hx.box.size)
  apply From.eq
  · intro w' hx; have hcx := hx.cell hc; dsimp only [DepsV, fat, List.nil_append, List.cons_append, eqF]; go_wp2; exact OpPost.some _ rfl rfl (Ext.refl _) rfl
  apply From.eq
  · intro w' hx; have hcx := hx.cell hc; dsimp only [DepsV, fat, List.nil_append, List.cons_append, eqF]; go_wp2; exact OpPost.some _ rfl rfl (Ext.refl _) rfl
  refine From.step (OwnF w.heap.size B) (OwnF.mono) ?_ ?_
  · intro w' hx; have hcx := hx.cell hc; dsimp only [DepsV, fat, List.nil_append, List.cons_append, eqF]; rintro _ rfl _ rfl; skip;
    go_wp2_with (go_at_call 27; refine (HT2.out _ hx).mono ?_; rintro e w2 ⟨v, rfl, ho, hn⟩); exact OpPost.some _ rfl rfl hn (ho.base hx.box.size)
  refine From.step (OwnF w.heap.size A) (OwnF.mono) ?_ ?_
  · intro w' hx; have hcx := hx.cell hc; dsimp only [DepsV, fat, List.nil_append, List.cons_append, eqF]; rintro v2 h2; go_wp2; exact OpPost.some _ rfl rfl (Ext.refl _) h2
  refine From.step (OwnF w.heap.size B) (OwnF.mono) ?_ ?_
  · intro w' hx; have hcx := hx.cell hc; dsimp only [DepsV, fat, List.nil_append, List.cons_append, eqF]; rintro v5 h5; go_wp2; exact OpPost.some _ rfl rfl (Ext.refl _) h5
  refine From.fin (fun w' hx => ?_)
  dsimp only [EndV, List.nil_append, List.cons_append, eqF]; rintro _ rfl _ rfl v2 h2 _ rfl _ rfl v5 h5 v6_ h6_ v7_ h7_; simp only [Act.put, List.setIfInBounds_toArray, List.set_cons_zero, List.set_cons_succ]
  have o1 : Own w' w.heap.size v6_ A := h6_
  have o2 : Own w' w.heap.size v7_ B := h7_
  obtain ⟨a1, k1, rfl, hk1, _, hr1⟩ := o1.form
  obtain ⟨a2, k2, rfl, hk2, _, hr2⟩ := o2.form
  clear h2 h5 h6_ h7_ o1 o2 hc
  have hext : Ext w w' := hx.box
  have hc := hx.boxCell
  by_cases hz : A.length = 0
  · have t1 : ((A.length : Int) == 0) = true := by rw [hz]; rfl
    have E : Hid (pmul p l m = []) := Lib.hid (by rw [HM.out, if_pos (.inl hz)])
    clear hz
    go_wp2
    go_ret
    exact ⟨_, rfl, by rw [E.out]; exact Own.nil _ _, hext⟩
  have t1 : ((A.length : Int) == 0) = false := beq_eq_false_iff_ne.2 (by omega)
  by_cases hz2 : B.length = 0
  · have t2 : ((B.length : Int) == 0) = true := by rw [hz2]; rfl
    have E : Hid (pmul p l m = []) := Lib.hid (by rw [HM.out, if_pos (.inr hz2)])
    clear hz2
    go_wp2
    go_ret
    exact ⟨_, rfl, by rw [E.out]; exact Own.nil _ _, hext⟩
  have t2 : ((B.length : Int) == 0) = false := beq_eq_false_iff_ne.2 (by omega)
  obtain ⟨n, hn0⟩ : ∃ n, n = A.length + B.length - 1 := ⟨_, rfl⟩
  have E : Hid (pmul p l m = trimZ (tab n (mout p A B A.length))) := Lib.hid (by rw [HM.out, if_neg (by omega), hn0])
  have hnv : (A.length : Int) + B.length - 1 = (n : Int) := by omega
  have hn1 : A.length + B.length ≤ n + 1 := by omega
  have hn2 : n + 1 ≤ A.length + B.length := by omega
  have hmk := make_c n n (Nat.le_refl _) (by omega)
  have HR1 := Lib.hid hr1
  have HR2 := Lib.hid hr2
  clear hn0 hr1 hr2
  go_wp2
  clear hmk hnv
  go_loopw [35] (MOuter p A B n w' w'.heap.size) (fun i _ => A.length - (intOf i).toNat)
  case atStart =>
    refine ⟨0, rfl, Nat.zero_le _, ?_, (Ext.refl _).alloc _⟩
    have := Arr.ofBlk (Blk.new w' (rowA (List.replicate n 0))) (by simp; omega)
    rw [List.length_replicate] at this
    have e : tab n (mout p A B 0) = List.replicate n 0 := by rw [tab_zero]; rfl
    rw [e]; exact this
  case round =>
    obtain ⟨i, rfl, hi, harr, hxr⟩ := hrel
    have hcr := hxr.cell hc
    by_cases hlt : i < A.length
    · obtain ⟨b1, o1, rfl, hcell⟩ := HR1.out.at (by omega)
      have c1 := hxr.cell (hcell i hlt)
      obtain ⟨b2, o2, rfl, hcell2⟩ := HR2.out.at (by omega)
      have E1 : Hid (mout p A B (i + 1) = if A.getD i 0 = 0 then mout p A B i else mrow p (mout p A B i) i (A.getD i 0) B B.length) := Lib.hid rfl
      obtain ⟨x, hx0⟩ : ∃ x, x = A.getD i 0 := ⟨_, rfl⟩
      obtain ⟨R, hR0⟩ : ∃ R, R = mout p A B i := ⟨_, rfl⟩
      rw [← hx0] at c1 E1
      rw [← hR0] at E1 harr
      have HA := Lib.hid harr
      have HC2 := Lib.hid hcell2
      have HXR := Lib.hid hxr
      clear hx0 hR0 hcell harr hcell2 HR1 HR2
      by_cases hx0 : x = 0
      · have t3 : ((x : Int) == 0) = true := by rw [hx0]; rfl
        have E2 : Hid (mout p A B (i + 1) = R) := Lib.hid (by rw [E1.out, if_pos hx0])
        clear hx0
        go_wp2
        go_roundw
        case rel => exact ⟨i + 1, by go_num, by omega, by rw [E2.out]; exact HA.out, HXR.out⟩
        case measure => simp [intOf]; omega
      · have t3 : ((x : Int) == 0) = false := beq_eq_false_iff_ne.2 (by omega)
        have E2 : Hid (mout p A B (i + 1) = mrow p R i x B B.length) := Lib.hid (by rw [E1.out, if_neg hx0])
        obtain ⟨wo, rfl⟩ : ∃ wo : World, wo = wr := ⟨_, rfl⟩
        clear hx0
        go_wp2
        go_loopw [44] (MInner p R i x B n w' w'.heap.size) (fun i _ => B.length - (intOf i).toNat)
        case atStart => exact ⟨0, rfl, Nat.zero_le _, by rw [mrow_zero]; exact HA.out, HXR.out⟩
        case round =>
          obtain ⟨k, rfl, hk, harr, hxi⟩ := hrel
          have hcc := hxi.cell hc
          by_cases hlt2 : k < B.length
          · have c2 := hxi.cell (HC2.out k hlt2)
            have c3 := harr.at (i := i + k) (by rw [tab_len]; omega)
            have f3 := harr.frozen (i + k)
            rw [tab_get _ _ _ (by omega), mrow_at] at c3
            obtain ⟨y, hy0⟩ : ∃ y, y = B.getD k 0 := ⟨_, rfl⟩
            obtain ⟨z, hz0⟩ : ∃ z, z = R (i + k) := ⟨_, rfl⟩
            have hst := mrow_step p R i x B k n
            rw [← hy0] at c2
            rw [← hz0] at c3
            rw [← hy0, ← hz0] at hst
            have HST := Lib.hid hst
            have HAR := Lib.hid harr
            clear hy0 hz0 hst harr
            go_wp2
            refine region_facts [[], [], [], [(1, 50), (2, 51)], [], [], [], [], [(6, 55), (7, 56)], [(5, 54), (8, 57)], [(9, 58)], [], [], [], [(11, 60), (12, 61), (13, 62)], [(4, 53), (10, 59), (14, 63)], [(0, 49), (3, 52)]] [some 49, some 50, some 51, some 52, some 53, some 54, some 55, some 56, some 57, some 58, some 59, some 60, some 61, some 62, some 63, some 64, some 65] (by kernel_rfl) (by kernel_rfl) ?_
            apply From.eq
            · intro w' hx; have hccx := hx.cell hcc; have c2x := hx.cell c2; have c3x := hx.cell c3; dsimp only [DepsV, fat, List.nil_append, List.cons_append, eqF]; go_wp2; exact OpPost.some _ rfl rfl (Ext.refl _) rfl
            apply From.eq
            · intro w' hx; have hccx := hx.cell hcc; have c2x := hx.cell c2; have c3x := hx.cell c3; dsimp only [DepsV, fat, List.nil_append, List.cons_append, eqF]; go_wp2; exact OpPost.some _ rfl rfl (Ext.refl _) rfl
            apply From.eq
            · intro w' hx; have hccx := hx.cell hcc; have c2x := hx.cell c2; have c3x := hx.cell c3; dsimp only [DepsV, fat, List.nil_append, List.cons_append, eqF]; go_wp2; exact OpPost.some _ rfl rfl (Ext.refl _) rfl
            apply From.eq
            · intro w' hx; have hccx := hx.cell hcc; have c2x := hx.cell c2; have c3x := hx.cell c3; dsimp only [DepsV, fat, List.nil_append, List.cons_append, eqF]; rintro _ rfl _ rfl; go_wp2; exact OpPost.some _ rfl rfl (Ext.refl _) rfl
            apply From.eq
            · intro w' hx; have hccx := hx.cell hcc; have c2x := hx.cell c2; have c3x := hx.cell c3; dsimp only [DepsV, fat, List.nil_append, List.cons_append, eqF]; go_wp2; exact OpPost.some _ rfl rfl (Ext.refl _) rfl
            apply From.eq
            · intro w' hx; have hccx := hx.cell hcc; have c2x := hx.cell c2; have c3x := hx.cell c3; dsimp only [DepsV, fat, List.nil_append, List.cons_append, eqF]; go_wp2; exact OpPost.some _ rfl rfl (Ext.refl _) rfl
            apply From.eq
            · intro w' hx; have hccx := hx.cell hcc; have c2x := hx.cell c2; have c3x := hx.cell c3; dsimp only [DepsV, fat, List.nil_append, List.cons_append, eqF]; go_wp2; exact OpPost.some _ rfl rfl (Ext.refl _) rfl
            apply From.eq
            · intro w' hx; have hccx := hx.cell hcc; have c2x := hx.cell c2; have c3x := hx.cell c3; dsimp only [DepsV, fat, List.nil_append, List.cons_append, eqF]; go_wp2; exact OpPost.some _ rfl rfl (Ext.refl _) rfl
            apply From.eq
            · intro w' hx; have hccx := hx.cell hcc; have c2x := hx.cell c2; have c3x := hx.cell c3; dsimp only [DepsV, fat, List.nil_append, List.cons_append, eqF]; rintro _ rfl _ rfl; go_wp2; exact OpPost.some _ rfl rfl (Ext.refl _) rfl
            apply From.eq
            · intro w' hx; have hccx := hx.cell hcc; have c2x := hx.cell c2; have c3x := hx.cell c3; dsimp only [DepsV, fat, List.nil_append, List.cons_append, eqF]; rintro _ rfl _ rfl; go_wp2; exact OpPost.some _ rfl rfl (Ext.refl _) rfl
            apply From.eq
            · intro w' hx; have hccx := hx.cell hcc; have c2x := hx.cell c2; have c3x := hx.cell c3; dsimp only [DepsV, fat, List.nil_append, List.cons_append, eqF]; rintro _ rfl; go_wp2; exact OpPost.some _ rfl rfl (Ext.refl _) rfl
            apply From.eq
            · intro w' hx; have hccx := hx.cell hcc; have c2x := hx.cell c2; have c3x := hx.cell c3; dsimp only [DepsV, fat, List.nil_append, List.cons_append, eqF]; go_wp2; exact OpPost.some _ rfl rfl (Ext.refl _) rfl
            apply From.eq
            · intro w' hx; have hccx := hx.cell hcc; have c2x := hx.cell c2; have c3x := hx.cell c3; dsimp only [DepsV, fat, List.nil_append, List.cons_append, eqF]; go_wp2; exact OpPost.some _ rfl rfl (Ext.refl _) rfl
            apply From.eq
            · intro w' hx; have hccx := hx.cell hcc; have c2x := hx.cell c2; have c3x := hx.cell c3; dsimp only [DepsV, fat, List.nil_append, List.cons_append, eqF]; go_wp2; exact OpPost.some _ rfl rfl (Ext.refl _) rfl
            apply From.eq
            · intro w' hx; have hccx := hx.cell hcc; have c2x := hx.cell c2; have c3x := hx.cell c3; dsimp only [DepsV, fat, List.nil_append, List.cons_append, eqF]; rintro _ rfl _ rfl _ rfl; go_wp2_with (go_at_call 44; refine (Mul_c _ _ _ _).mono ?_; rintro e w2 ⟨rfl, hb2⟩); exact OpPost.some _ rfl rfl hb2 rfl
            apply From.eq
            · intro w' hx; have hccx := hx.cell hcc; have c2x := hx.cell c2; have c3x := hx.cell c3; dsimp only [DepsV, fat, List.nil_append, List.cons_append, eqF]; rintro _ rfl _ rfl _ rfl; go_wp2_with (go_at_call 48; refine (Add_c _ _ _ _).mono ?_; rintro e w2 ⟨rfl, hb2⟩); exact OpPost.some _ rfl rfl hb2 rfl
            apply From.eq
            · intro w' hx; have hccx := hx.cell hcc; have c2x := hx.cell c2; have c3x := hx.cell c3; dsimp only [DepsV, fat, List.nil_append, List.cons_append, eqF]; rintro _ rfl _ rfl; go_wp2; exact OpPost.some _ rfl rfl (Ext.refl _) rfl
            refine From.fin (fun w' hx => ?_)
            dsimp only [EndV, List.nil_append, List.cons_append, eqF]; rintro _ rfl _ rfl _ rfl _ rfl _ rfl _ rfl _ rfl _ rfl _ rfl _ rfl _ rfl _ rfl _ rfl _ rfl _ rfl _ rfl _ rfl; simp only [Act.put, List.setIfInBounds_toArray, List.set_cons_zero, List.set_cons_succ]
            have d1 := hx.cell c3
            have d2 := (HAR.out.ext hx).frozen (i + k)
            go_wp2
            go_roundw
            case rel =>
              refine ⟨k + 1, by go_num, by omega, ?_, (hxi.trans hx).setNew (Nat.le_refl _) _⟩
              rw [← HST.out]; exact (HAR.out.ext hx).set (i + k) _ (by rw [tab_len]; omega)
            case measure => simp [intOf]; omega
          · obtain rfl : k = B.length := by omega
            have HAR := Lib.hid harr
            clear harr
            go_wp2
            go_roundw
            case rel => exact ⟨i + 1, by go_num, by omega, by rw [E2.out]; exact HAR.out, hxi⟩
            case measure => simp [intOf]; omega
    · obtain rfl : i = A.length := by omega
      have S := shorten_c (tab n (mout p A B A.length)) (some ⟨w'.heap.size, 0, none⟩) n wr harr.rd (by rw [tab_len]; exact Nat.le_refl _) (by omega)
      rw [tab_len] at S
      have HS := Lib.hid S
      have HAR := Lib.hid harr
      clear harr S HR1 HR2
      go_wp2_with (go_at_call 56; refine HS.out.mono ?_; rintro e w1 ⟨rfl, rfl⟩)
      go_ret
      refine ⟨_, rfl, ?_, hext.trans hxr⟩
      rw [E.out]
      have h1 := (HAR.out.short (trimZ (tab n (mout p A B A.length))).length).own (base := w.heap.size) hext.size
      rw [trimZ_take] at h1
      exact h1
end Go.Proofs.Ytcnbinjoeilfgaa
