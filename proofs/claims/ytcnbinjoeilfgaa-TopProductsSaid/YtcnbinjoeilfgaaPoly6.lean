/- Contracts of package poly: Interpolate. -/
import Derived.Test.YtcnbinjoeilfgaaPoly5
namespace Go.Proofs.Ytcnbinjoeilfgaa
open Go.RowKit


set_option maxHeartbeats 1000000 in
theorem Interp_inv (p : Nat) (l m : List Nat) (a b : Option Addr) (c d : Nat) (w : World) (hv : vld p = false) :
    Calls Try.prog 36 #[.agg #[.int .u64 p], .slice a l.length c, .slice b m.length d] w (IPost w [] 7) := by
  have H := Lib.hid hv
  clear hv
  go_enter Try.func36, Try.ntmps36
  go_wp2_with (go_at_call 39; refine (Valid_c _ _).mono ?_; rintro e w1 ⟨rfl, hb1⟩; rw [H.out])
  go_ret2
  exact ⟨_, rfl, Own.nil _ _, hb1.box⟩

set_option maxRecDepth 100000 in
set_option maxHeartbeats 1000000 in
theorem Interp_len (p : Nat) (l m : List Nat) (a b : Option Addr) (c d : Nat) (w : World) (hv : vld p = true) (hne : l.length ≠ m.length) (_hl : l.length ≤ 100000) (_hm : m.length ≤ 100000) :
    Calls Try.prog 36 #[.agg #[.int .u64 p], .slice a l.length c, .slice b m.length d] w (IPost w [] 1) := by
  have H := Lib.hid hv
  have t : ((l.length : Int) != (m.length : Int)) = true := by rw [bne_iff_ne]; omega
  clear hv hne
  go_enter Try.func36, Try.ntmps36
  go_wp2_with (go_at_call 39; refine (Valid_c _ _).mono ?_; rintro e w1 ⟨rfl, hb1⟩; rw [H.out]; have hc := hb1.boxCell)
  go_ret2
  exact ⟨_, rfl, Own.nil _ _, hb1.box⟩

set_option maxRecDepth 100000 in
set_option maxHeartbeats 1000000 in
theorem Interp_dup (p : Nat) (l m : List Nat) (a b : Option Addr) (c d : Nat) (w : World) (hv : vld p = true) (ha : Rd w a l) (hne : l.length = m.length) (hl : l.length ≤ 100000) (hnd : ¬ (l.map (fred p)).Nodup) :
    Calls Try.prog 36 #[.agg #[.int .u64 p], .slice a l.length c, .slice b m.length d] w (IPost w [] 1) := by
  have H := Lib.hid hv
  rw [← hne]
  have t : ((l.length : Int) != (l.length : Int)) = false := by simp
  have D := fun w' (h : Ext w w') => different_c p l a c w' (ha.ext h) (by omega)
  rw [decide_eq_false hnd] at D
  have HD := Lib.hid D
  clear hv hne ha D hnd
  go_enter Try.func36, Try.ntmps36
  go_wp2_with fail
  refine (Valid_c _ _).mono ?_; rintro e w1 ⟨rfl, hb1⟩; rw [H.out]; have hc := hb1.boxCell
  go_wp2_with fail
  refine (HD.out _ hb1.box).mono ?_; rintro e w2 ⟨rfl, hn⟩
  go_wp2_with fail
  go_ret2
  exact ⟨_, rfl, Own.nil _ _, hb1.box.trans hn⟩

def IOut (p : Nat) (xs ys : List Nat) (w3 : World) (g : Nat) (s : Value) (wr : World) : Prop :=
  ∃ k : Nat, s = .int .i64 k ∧ k ≤ xs.length ∧ Arr wr g (tab xs.length (iout p xs ys k)) xs.length ∧ Ext w3 wr
def IIn (p : Nat) (R : Nat → Nat) (n fac : Nat) (o : List Nat) (w3 : World) (g go co : Nat) (s : Value) (wr : World) : Prop :=
  ∃ k : Nat, s = .int .i64 k ∧ k ≤ o.length ∧ Arr wr g (tab n (irow p R fac o k)) n ∧ Arr wr go o co ∧ Ext w3 wr

set_option maxRecDepth 100000 in
set_option maxHeartbeats 4000000 in
theorem Interp_ok (p : Nat) (l m : List Nat) (a b : Option Addr) (c d : Nat) (w : World) (hv : vld p = true) (ha : Rd w a l) (hb : Rd w b m) (hne : l.length = m.length) (hl : l.length ≤ 10000) (hnd : (l.map (fred p)).Nodup) :
    Calls Try.prog 36 #[.agg #[.int .u64 p], .slice a l.length c, .slice b m.length d] w (IPost w (pinter p l m) 0) := by
  have H := Lib.hid hv
  have t : ((l.length : Int) != (l.length : Int)) = false := by simp
  have D := fun w' (h : Ext w w') => different_c p l a c w' (ha.ext h) (by omega)
  rw [decide_eq_true hnd] at D
  have HD := Lib.hid D
  have VC := fun w' (h : Ext w w') => VanP_c p l a c w' (ha.ext h) (by omega)
  rw [if_pos hv] at VC
  have HV := Lib.hid VC
  have hpl : (pvan p l).length = l.length + 1 := pvanK_len p l l.length
  obtain ⟨V, hV0⟩ : ∃ V, V = pvan p l := ⟨_, rfl⟩
  rw [← hV0] at HV hpl
  have HV0 := Lib.hid hV0
  have HPL := Lib.hid hpl
  have hmk := make_c l.length l.length (Nat.le_refl _) (by omega)
  have HA := Lib.hid ha
  have HB := Lib.hid hb
  have HNE := Lib.hid hne
  have E : Hid (pinter p l m = trimZ (tab l.length (iout p l m l.length))) := Lib.hid rfl
  rw [← hne]
  clear hv ha D hnd VC hV0 hpl hb hne
  go_enter Try.func36, Try.ntmps36
  go_wp2_with fail
  refine (Valid_c _ _).mono ?_; rintro e w1 ⟨rfl, hb1⟩; rw [H.out]; have hc := hb1.boxCell
  go_wp2_with fail
  refine (HD.out _ hb1.box).mono ?_; rintro e w2 ⟨rfl, hn⟩
  replace hc := hn.cell hc
  go_wp2_with fail
  refine (HV.out _ (hb1.box.trans hn)).mono ?_; rintro e w3 ⟨v, rfl, ho, hn2⟩
  obtain ⟨aV, cV, rfl, _, _, hrV⟩ := ho.form
  have HRV := Lib.hid hrV
  replace hc := hn2.cell hc
  have h03 : Hid (Ext w w3) := Lib.hid ((hb1.box.trans hn).trans hn2)
  clear ho hrV hn hn2 hb1
  go_wp2_with fail
  clear hmk
  go_loopw [38] (IOut p l m w3 w3.heap.size) (fun i _ => l.length - (intOf i).toNat)
  case atStart =>
    refine ⟨0, rfl, Nat.zero_le _, ?_, (Ext.refl _).alloc _⟩
    have := Arr.ofBlk (Blk.new w3 (rowA (List.replicate l.length 0))) (by simp; omega)
    rw [List.length_replicate] at this
    have e : tab l.length (iout p l m 0) = List.replicate l.length 0 := by rw [tab_zero]; rfl
    rw [e]; exact this
  case round =>
    obtain ⟨i, rfl, hi, harr, hxr⟩ := hrel
    have hcr := hxr.cell hc
    by_cases hlt : i < l.length
    · obtain ⟨b1, o1, rfl, hcell⟩ := HA.out.at (by omega)
      have c1 := hxr.cell (h03.out.cell (hcell i hlt))
      obtain ⟨b2, o2, rfl, hcell2⟩ := HB.out.at (by have := HNE.out; omega)
      have c2 := hxr.cell (h03.out.cell (hcell2 i (by have := HNE.out; omega)))
      have W := without_c p V aV cV (l.getD i 0) wr (HRV.out.ext hxr) (by have := HPL.out; omega) (by have := HPL.out; omega)
      have hwl := without_len p (l.getD i 0) V
      rw [HPL.out, Nat.add_sub_cancel] at hwl
      have E1 : iout p l m (i + 1) = irow p (iout p l m i) (fdiv p (m.getD i 0) (horner p (l.getD i 0) (without p (l.getD i 0) V))) (without p (l.getD i 0) V) (without p (l.getD i 0) V).length := by rw [HV0.out]; rfl
      obtain ⟨x, hx0⟩ : ∃ x, x = l.getD i 0 := ⟨_, rfl⟩
      obtain ⟨y, hy0⟩ : ∃ y, y = m.getD i 0 := ⟨_, rfl⟩
      obtain ⟨R, hR0⟩ : ∃ R, R = iout p l m i := ⟨_, rfl⟩
      rw [← hx0] at c1 W hwl E1
      rw [← hy0] at c2 E1
      rw [← hR0] at E1 harr
      obtain ⟨o, ho0⟩ : ∃ o, o = without p x V := ⟨_, rfl⟩
      rw [← ho0] at W hwl E1
      have HWL := Lib.hid hwl
      have HW := Lib.hid W
      have HAR := Lib.hid harr
      have HE1 := Lib.hid E1
      clear hcell hcell2 W hwl E1 hx0 hy0 hR0 ho0 harr
      go_wp2_with fail
      refine HW.out.mono ?_; rintro e w4 ⟨v, rfl, ho, hn4⟩
      obtain ⟨go, co, hv4, hgo, hoc, haro⟩ := ho.arr (by rw [HWL.out]; omega)
      rw [HWL.out] at hv4
      subst hv4
      have HARO := Lib.hid haro
      have hgne : w3.heap.size < go := by have := HAR.out.lt; omega
      have hc4 := hn4.cell hcr
      have c24 := hn4.cell c2
      clear ho haro
      go_wp2_with fail
      refine region_facts [[], [], [], [(1, 48), (2, 49)], [(3, 50)], [], [], [], [(5, 52), (6, 53), (7, 54)], [(0, 47), (4, 51), (8, 55)], [(9, 56)]] [some 47, some 48, some 49, some 50, some 51, some 52, some 53, some 54, some 55, some 56, some 13] (by kernel_rfl) (by kernel_rfl) ?_
      apply From.eq
      · intro w' hx; have hc4x := hx.cell hc4; have c24x := hx.cell c24; dsimp only [DepsV, fat, List.nil_append, List.cons_append, eqF]; go_wp2; exact OpPost.some _ rfl rfl (Ext.refl _) rfl
      apply From.eq
      · intro w' hx; have hc4x := hx.cell hc4; have c24x := hx.cell c24; dsimp only [DepsV, fat, List.nil_append, List.cons_append, eqF]; go_wp2; exact OpPost.some _ rfl rfl (Ext.refl _) rfl
      apply From.eq
      · intro w' hx; have hc4x := hx.cell hc4; have c24x := hx.cell c24; dsimp only [DepsV, fat, List.nil_append, List.cons_append, eqF]; go_wp2; exact OpPost.some _ rfl rfl (Ext.refl _) rfl
      apply From.eq
      · intro w' hx; have hc4x := hx.cell hc4; have c24x := hx.cell c24; dsimp only [DepsV, fat, List.nil_append, List.cons_append, eqF]; rintro _ rfl _ rfl; go_wp2; exact OpPost.some _ rfl rfl (Ext.refl _) rfl
      apply From.eq
      · intro w' hx; have hc4x := hx.cell hc4; have c24x := hx.cell c24; dsimp only [DepsV, fat, List.nil_append, List.cons_append, eqF]; rintro _ rfl; go_wp2; exact OpPost.some _ rfl rfl (Ext.refl _) rfl
      apply From.eq
      · intro w' hx; have hc4x := hx.cell hc4; have c24x := hx.cell c24; dsimp only [DepsV, fat, List.nil_append, List.cons_append, eqF]; go_wp2; exact OpPost.some _ rfl rfl (Ext.refl _) rfl
      apply From.eq
      · intro w' hx; have hc4x := hx.cell hc4; have c24x := hx.cell c24; dsimp only [DepsV, fat, List.nil_append, List.cons_append, eqF]; go_wp2; exact OpPost.some _ rfl rfl (Ext.refl _) rfl
      apply From.eq
      · intro w' hx; have hc4x := hx.cell hc4; have c24x := hx.cell c24; dsimp only [DepsV, fat, List.nil_append, List.cons_append, eqF]; go_wp2; exact OpPost.some _ rfl rfl (Ext.refl _) rfl
      -- 8: t55
      apply From.eq
      · intro w' hx; have hc4x := hx.cell hc4; have c24x := hx.cell c24; dsimp only [DepsV, fat, List.nil_append, List.cons_append, eqF]; rintro _ rfl _ rfl _ rfl
        have EV := EvalP_c p o (some ⟨go, 0, none⟩) co x w' (HARO.out.ext hx).rd (by rw [HWL.out]; omega)
        rw [HWL.out] at EV
        have HEV := Lib.hid EV
        clear EV
        go_wp2_with (go_at_call 50; refine HEV.out.mono ?_; rintro e w2 ⟨rfl, hb2⟩); exact OpPost.some _ rfl rfl hb2 rfl
      apply From.eq
      · intro w' hx; have hc4x := hx.cell hc4; have c24x := hx.cell c24; dsimp only [DepsV, fat, List.nil_append, List.cons_append, eqF]; rintro _ rfl _ rfl _ rfl; go_wp2_with (go_at_call 63; refine (Div_c _ _ _ _).mono ?_; rintro e w2 ⟨rfl, hb2⟩); exact OpPost.some _ rfl rfl hb2 rfl
      apply From.eq
      · intro w' hx; have hc4x := hx.cell hc4; have c24x := hx.cell c24; dsimp only [DepsV, fat, List.nil_append, List.cons_append, eqF]; rintro _ rfl; go_wp2; exact OpPost.some _ rfl rfl (Ext.refl _) rfl
      refine From.fin (fun w' hx => ?_)
      dsimp only [EndV, List.nil_append, List.cons_append, eqF]; rintro _ rfl _ rfl _ rfl _ rfl _ rfl _ rfl _ rfl _ rfl _ rfl _ rfl _ rfl; simp only [Act.put, List.setIfInBounds_toArray, List.set_cons_zero, List.set_cons_succ]
      obtain ⟨fac, hfac⟩ : ∃ fac, fac = fdiv p y (horner p x o) := ⟨_, rfl⟩
      rw [← hfac]
      rw [← hfac] at HE1
      have AR1 : Hid (Arr w' w3.heap.size (tab l.length R) l.length) := Lib.hid ((HAR.out.ext hn4).ext hx)
      have AR2 : Hid (Arr w' go o co) := Lib.hid (HARO.out.ext hx)
      have hx3 : Hid (Ext w3 w') := Lib.hid ((hxr.trans hn4).trans hx)
      clear hfac hx hn4 hcr hc4 c24 c1 c2 hxr HAR HARO
      go_wp2_with fail
      go_loopw [59] (IIn p R l.length fac o w3 w3.heap.size go co) (fun i _ => l.length - (intOf i).toNat)
      case atStart => exact ⟨0, rfl, Nat.zero_le _, by rw [irow_zero]; exact AR1.out, AR2.out, hx3.out⟩
      case round =>
        obtain ⟨k, rfl, hk, ar1, ar2, hxi⟩ := hrel
        have hcc := hxi.cell hc
        have hol := HWL.out
        by_cases hlt2 : k < l.length
        · have c2 := ar2.at (i := k) (by omega)
          have c3 := ar1.at (i := k) (by rw [tab_len]; omega)
          rw [tab_get _ _ _ (by omega), irow_at] at c3
          obtain ⟨y2, hy0⟩ : ∃ y2, y2 = o.getD k 0 := ⟨_, rfl⟩
          obtain ⟨z2, hz0⟩ : ∃ z2, z2 = R k := ⟨_, rfl⟩
          have hst := irow_step p R fac o k l.length
          rw [← hy0] at c2
          rw [← hz0] at c3
          rw [← hy0, ← hz0] at hst
          have HST2 := Lib.hid hst
          have HAR := Lib.hid ar1
          have HAR2 := Lib.hid ar2
          clear hy0 hz0 hst ar1 ar2 hol
          go_wp2_with fail
          refine region_facts [[], [], [], [], [], [(3, 67), (4, 68)], [(5, 69)], [], [], [], [(7, 71), (8, 72), (9, 73)], [(2, 66), (6, 70), (10, 74)], [(0, 64), (1, 65)]] [some 64, some 65, some 66, some 67, some 68, some 69, some 70, some 71, some 72, some 73, some 74, some 75, some 76] (by kernel_rfl) (by kernel_rfl) ?_
          apply From.eq
          · intro w' hx; have hccx := hx.cell hcc; have c2x := hx.cell c2; have c3x := hx.cell c3; dsimp only [DepsV, fat, List.nil_append, List.cons_append, eqF]; go_wp2; exact OpPost.some _ rfl rfl (Ext.refl _) rfl
          apply From.eq
          · intro w' hx; have hccx := hx.cell hcc; have c2x := hx.cell c2; have c3x := hx.cell c3; dsimp only [DepsV, fat, List.nil_append, List.cons_append, eqF]; go_wp2; exact OpPost.some _ rfl rfl (Ext.refl _) rfl
          apply From.eq
          · intro w' hx; have hccx := hx.cell hcc; have c2x := hx.cell c2; have c3x := hx.cell c3; dsimp only [DepsV, fat, List.nil_append, List.cons_append, eqF]; go_wp2; exact OpPost.some _ rfl rfl (Ext.refl _) rfl
          apply From.eq
          · intro w' hx; have hccx := hx.cell hcc; have c2x := hx.cell c2; have c3x := hx.cell c3; dsimp only [DepsV, fat, List.nil_append, List.cons_append, eqF]; go_wp2; exact OpPost.some _ rfl rfl (Ext.refl _) rfl
          apply From.eq
          · intro w' hx; have hccx := hx.cell hcc; have c2x := hx.cell c2; have c3x := hx.cell c3; dsimp only [DepsV, fat, List.nil_append, List.cons_append, eqF]; go_wp2; exact OpPost.some _ rfl rfl (Ext.refl _) rfl
          apply From.eq
          · intro w' hx; have hccx := hx.cell hcc; have c2x := hx.cell c2; have c3x := hx.cell c3; dsimp only [DepsV, fat, List.nil_append, List.cons_append, eqF]; rintro _ rfl _ rfl; go_wp2; exact OpPost.some _ rfl rfl (Ext.refl _) rfl
          apply From.eq
          · intro w' hx; have hccx := hx.cell hcc; have c2x := hx.cell c2; have c3x := hx.cell c3; dsimp only [DepsV, fat, List.nil_append, List.cons_append, eqF]; rintro _ rfl; go_wp2; exact OpPost.some _ rfl rfl (Ext.refl _) rfl
          apply From.eq
          · intro w' hx; have hccx := hx.cell hcc; have c2x := hx.cell c2; have c3x := hx.cell c3; dsimp only [DepsV, fat, List.nil_append, List.cons_append, eqF]; go_wp2; exact OpPost.some _ rfl rfl (Ext.refl _) rfl
          apply From.eq
          · intro w' hx; have hccx := hx.cell hcc; have c2x := hx.cell c2; have c3x := hx.cell c3; dsimp only [DepsV, fat, List.nil_append, List.cons_append, eqF]; go_wp2; exact OpPost.some _ rfl rfl (Ext.refl _) rfl
          apply From.eq
          · intro w' hx; have hccx := hx.cell hcc; have c2x := hx.cell c2; have c3x := hx.cell c3; dsimp only [DepsV, fat, List.nil_append, List.cons_append, eqF]; go_wp2; exact OpPost.some _ rfl rfl (Ext.refl _) rfl
          apply From.eq
          · intro w' hx; have hccx := hx.cell hcc; have c2x := hx.cell c2; have c3x := hx.cell c3; dsimp only [DepsV, fat, List.nil_append, List.cons_append, eqF]; rintro _ rfl _ rfl _ rfl; go_wp2_with (go_at_call 44; refine (Mul_c _ _ _ _).mono ?_; rintro e w2 ⟨rfl, hb2⟩); exact OpPost.some _ rfl rfl hb2 rfl
          apply From.eq
          · intro w' hx; have hccx := hx.cell hcc; have c2x := hx.cell c2; have c3x := hx.cell c3; dsimp only [DepsV, fat, List.nil_append, List.cons_append, eqF]; rintro _ rfl _ rfl _ rfl; go_wp2_with (go_at_call 48; refine (Add_c _ _ _ _).mono ?_; rintro e w2 ⟨rfl, hb2⟩); exact OpPost.some _ rfl rfl hb2 rfl
          apply From.eq
          · intro w' hx; have hccx := hx.cell hcc; have c2x := hx.cell c2; have c3x := hx.cell c3; dsimp only [DepsV, fat, List.nil_append, List.cons_append, eqF]; rintro _ rfl _ rfl; go_wp2; exact OpPost.some _ rfl rfl (Ext.refl _) rfl
          refine From.fin (fun w' hx => ?_)
          dsimp only [EndV, List.nil_append, List.cons_append, eqF]; rintro _ rfl _ rfl _ rfl _ rfl _ rfl _ rfl _ rfl _ rfl _ rfl _ rfl _ rfl _ rfl _ rfl; simp only [Act.put, List.setIfInBounds_toArray, List.set_cons_zero, List.set_cons_succ]
          have d1 := hx.cell c3
          have d2 := (HAR.out.ext hx).frozen k
          go_wp2_with fail
          go_roundw
          case rel =>
            refine ⟨k + 1, by go_num, by rw [HWL.out]; omega, ?_, (HAR2.out.ext hx).far (by simp; omega) _, (hxi.trans hx).setNew (Nat.le_refl _) _⟩
            rw [← HST2.out]; exact (HAR.out.ext hx).set k _ (by rw [tab_len]; omega)
          case measure => simp [intOf]; omega
        · obtain rfl : k = o.length := by omega
          have HAR := Lib.hid ar1
          have hkl : l.length ≤ o.length ∧ o.length ≤ l.length := by omega
          clear ar1 ar2 hol
          go_wp2_with fail
          go_roundw
          case rel => exact ⟨i + 1, by go_num, by omega, by rw [HE1.out]; exact HAR.out, hxi⟩
          case measure => simp [intOf]; omega
    · obtain rfl : i = l.length := by omega
      have S := shorten_c (tab l.length (iout p l m l.length)) (some ⟨w3.heap.size, 0, none⟩) l.length wr harr.rd (by rw [tab_len]; exact Nat.le_refl _) (by omega)
      rw [tab_len] at S
      have HS := Lib.hid S
      have HAR := Lib.hid harr
      clear harr S
      go_wp2_with fail
      refine HS.out.mono ?_; rintro e w1 ⟨rfl, rfl⟩
      go_wp2_with fail
      go_ret2
      refine ⟨_, rfl, ?_, h03.out.trans hxr⟩
      rw [E.out]
      have h1 := (HAR.out.short (trimZ (tab l.length (iout p l m l.length))).length).own (base := w.heap.size) h03.out.size
      rw [trimZ_take] at h1
      exact h1
end Go.Proofs.Ytcnbinjoeilfgaa
