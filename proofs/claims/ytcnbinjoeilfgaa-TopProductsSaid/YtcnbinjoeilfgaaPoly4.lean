/- Contracts of package poly: without, Vanishing. -/
import Derived.Test.YtcnbinjoeilfgaaPoly3
import Derived.Test.YtcnbinjoeilfgaaGP
namespace Go.Proofs.Ytcnbinjoeilfgaa
open Go.RowKit

def WRel (p x : Nat) (l : List Nat) (n : Nat) (w0 : World) (g : Nat) (v s : Value) (wr : World) : Prop :=
  ∃ k : Nat, s = .int .i64 ((k : Int) - 1) ∧ k ≤ n ∧ v = .int .u64 (horner p x (l.drop (k + 1))) ∧ Arr wr g (tab n (wq p x l k)) n ∧ Ext w0 wr

set_option maxHeartbeats 2000000 in
theorem without_c (p : Nat) (l : List Nat) (a : Option Addr) (c x : Nat) (w : World) (ha : Rd w a l) (hl : l.length ≤ 1000000) (h1 : 0 < l.length) :
    Calls Try.prog 62 #[.agg #[.int .u64 p], .slice a l.length c, .int .u64 x] w (SlPost w (without p x l)) := by
  obtain ⟨n, hn0⟩ : ∃ n, l.length = n + 1 := ⟨l.length - 1, by omega⟩
  have E : Hid (without p x l = tab n (wq p x l 0)) := Lib.hid (by unfold without; rw [hn0]; rfl)
  have hnv : ((n + 1 : Nat) : Int) - 1 = (n : Int) := by omega
  have hmk := make_c n n (Nat.le_refl _) (by omega)
  have HN := Lib.hid hn0
  have HA := Lib.hid ha
  rw [hn0]
  have hn1 : n + 1 ≤ 1000000 := by omega
  clear hn0 ha hl h1
  go_enter Try.func62, Try.ntmps62
  go_wp2
  clear hmk hnv
  go_loopw [8, 9] (WRel p x l n (w.alloc (.cells #[.int .u64 p] 29)) (w.heap.size + 1)) (fun _ s _ => (intOf s + 1).toNat)
  case atStart =>
    refine ⟨n, by go_num, Nat.le_refl _, ?_, ?_, (Ext.refl _).alloc _⟩
    · rw [List.drop_eq_nil_of_le (by have := HN.out; omega)]; rfl
    · rw [wq_top]
      have := Arr.ofBlk (Blk.new (w.alloc (.cells #[.int .u64 p] 29)) (rowA (List.replicate n 0))) (by simp; omega)
      simpa using this
  case round =>
    obtain ⟨k, rfl, hk, rfl, harr, hext⟩ := hrel
    have hc := hext.boxCell
    by_cases h0 : k = 0
    · subst h0
      have HAR := Lib.hid harr
      clear harr
      go_wp2
      go_ret
      refine ⟨_, rfl, ?_, hext.box⟩
      rw [E.out]
      have := HAR.out.own (base := w.heap.size) (by omega)
      rw [tab_len] at this
      exact this
    · obtain ⟨j, rfl⟩ : ∃ j, k = j + 1 := ⟨k - 1, by omega⟩
      have hll : j + 1 < l.length := by have := HN.out; omega
      obtain ⟨b, off, rfl, hcell⟩ := HA.out.at (by omega)
      have c1 := (hext.box).cell (hcell (j + 1) hll)
      have hh := horner_drop p x l (j + 1) hll
      have hst := wq_step p x l n j
      obtain ⟨v, hv0⟩ : ∃ v, v = horner p x (l.drop (j + 1 + 1)) := ⟨_, rfl⟩
      obtain ⟨y, hy0⟩ : ∃ y, y = l.getD (j + 1) 0 := ⟨_, rfl⟩
      rw [← hy0] at c1
      rw [← hy0, ← hv0] at hh
      rw [hh] at hst
      rw [← hv0]
      have HH := Lib.hid hh
      have HST := Lib.hid hst
      have HAR := Lib.hid harr
      have z1 : ((j + 1 : Nat) : Int) - 1 = (j : Int) := by omega
      rw [z1]
      clear hcell hh hst hv0 hy0 harr HA hll
      go_wp2
      refine region_facts [[], [], [], [(2, 23)], [(1, 22), (3, 24)], [(4, 25)], [], [], [], [(6, 27), (7, 28), (8, 29)], [(0, 21), (5, 26), (9, 30)], [(10, 31)]] [some 21, some 22, some 23, some 24, some 25, some 26, some 27, some 28, some 29, some 30, some 31, some 8] (by kernel_rfl) (by kernel_rfl) ?_
      apply From.eq
      · intro w' hx; have hcx := hx.cell hc; have c1x := hx.cell c1; dsimp only [DepsV, fat, List.nil_append, List.cons_append, eqF]; go_wp2; exact OpPost.some _ rfl rfl (Ext.refl _) rfl
      apply From.eq
      · intro w' hx; have hcx := hx.cell hc; have c1x := hx.cell c1; dsimp only [DepsV, fat, List.nil_append, List.cons_append, eqF]; go_wp2; exact OpPost.some _ rfl rfl (Ext.refl _) rfl
      apply From.eq
      · intro w' hx; have hcx := hx.cell hc; have c1x := hx.cell c1; dsimp only [DepsV, fat, List.nil_append, List.cons_append, eqF]; go_wp2; exact OpPost.some _ rfl rfl (Ext.refl _) rfl
      apply From.eq
      · intro w' hx; have hcx := hx.cell hc; have c1x := hx.cell c1; dsimp only [DepsV, fat, List.nil_append, List.cons_append, eqF]; rintro _ rfl; go_wp2; exact OpPost.some _ rfl rfl (Ext.refl _) rfl
      apply From.eq
      · intro w' hx; have hcx := hx.cell hc; have c1x := hx.cell c1; dsimp only [DepsV, fat, List.nil_append, List.cons_append, eqF]; rintro _ rfl _ rfl; go_wp2; exact OpPost.some _ rfl rfl (Ext.refl _) rfl
      apply From.eq
      · intro w' hx; have hcx := hx.cell hc; have c1x := hx.cell c1; dsimp only [DepsV, fat, List.nil_append, List.cons_append, eqF]; rintro _ rfl; go_wp2; exact OpPost.some _ rfl rfl (Ext.refl _) rfl
      apply From.eq
      · intro w' hx; have hcx := hx.cell hc; have c1x := hx.cell c1; dsimp only [DepsV, fat, List.nil_append, List.cons_append, eqF]; go_wp2; exact OpPost.some _ rfl rfl (Ext.refl _) rfl
      apply From.eq
      · intro w' hx; have hcx := hx.cell hc; have c1x := hx.cell c1; dsimp only [DepsV, fat, List.nil_append, List.cons_append, eqF]; go_wp2; exact OpPost.some _ rfl rfl (Ext.refl _) rfl
      apply From.eq
      · intro w' hx; have hcx := hx.cell hc; have c1x := hx.cell c1; dsimp only [DepsV, fat, List.nil_append, List.cons_append, eqF]; go_wp2; exact OpPost.some _ rfl rfl (Ext.refl _) rfl
      apply From.eq
      · intro w' hx; have hcx := hx.cell hc; have c1x := hx.cell c1; dsimp only [DepsV, fat, List.nil_append, List.cons_append, eqF]; rintro _ rfl _ rfl _ rfl; go_wp2_with (go_at_call 44; refine (Mul_c _ _ _ _).mono ?_; rintro e w2 ⟨rfl, hb2⟩); exact OpPost.some _ rfl rfl hb2 rfl
      apply From.eq
      · intro w' hx; have hcx := hx.cell hc; have c1x := hx.cell c1; dsimp only [DepsV, fat, List.nil_append, List.cons_append, eqF]; rintro _ rfl _ rfl _ rfl; go_wp2_with (go_at_call 48; refine (Add_c _ _ _ _).mono ?_; rintro e w2 ⟨rfl, hb2⟩); exact OpPost.some _ rfl rfl hb2 rfl
      apply From.eq
      · intro w' hx; have hcx := hx.cell hc; have c1x := hx.cell c1; dsimp only [DepsV, fat, List.nil_append, List.cons_append, eqF]; rintro _ rfl; go_wp2; exact OpPost.some _ rfl rfl (Ext.refl _) rfl
      refine From.fin (fun w' hx => ?_)
      dsimp only [EndV, List.nil_append, List.cons_append, eqF]; rintro _ rfl _ rfl _ rfl _ rfl _ rfl _ rfl _ rfl _ rfl _ rfl _ rfl _ rfl _ rfl; simp only [Act.put, List.setIfInBounds_toArray, List.set_cons_zero, List.set_cons_succ]
      have d1 := (HAR.out.ext hx).at (i := j) (by rw [tab_len]; omega)
      have d2 := (HAR.out.ext hx).frozen j
      obtain ⟨o, ho⟩ : ∃ o, o = (tab n (wq p x l (j + 1))).getD j 0 := ⟨_, rfl⟩
      rw [← ho] at d1
      clear ho
      go_wp2
      go_roundw
      case rel =>
        refine ⟨j, by go_num, by omega, by rw [HH.out], ?_, (hext.trans hx).setNew (by simp) _⟩
        rw [← HST.out]; exact (HAR.out.ext hx).set j _ (by rw [tab_len]; omega)
      case measure => simp [intOf]

def VRel (p : Nat) (xs : List Nat) (w0 : World) (v s : Value) (wr : World) : Prop :=
  ∃ k : Nat, s = .int .i64 k ∧ k ≤ xs.length ∧ Own wr w0.heap.size v (pvanK p xs k) ∧ Ext w0 wr
def VIn (p x : Nat) (V : List Nat) (n c : Nat) (w0 : World) (g : Nat) (s : Value) (wr : World) : Prop :=
  ∃ j : Nat, s = .int .i64 j ∧ j + 1 ≤ n ∧ Arr wr g (tab n (vin p x V j)) c ∧ Ext w0 wr

theorem van_start (w1 : World) (n : Nat) (hn : n ≤ 100000) : Own (w1.alloc (.cells ((rowA (List.replicate (n + 1) 0)).setIfInBounds 0 (.int .u64 1)) 22)) w1.heap.size (.slice (some ⟨w1.heap.size, 0, none⟩) 1 (n + 1)) [1] := by
  have e : (rowA (List.replicate (n + 1) 0)).setIfInBounds 0 (.int .u64 1) = rowA ([1] ++ List.replicate n 0) := by
    have := rowA_set (List.replicate (n + 1) 0) 0 1
    rw [List.replicate_succ, List.set_cons_zero] at this
    exact this
  rw [e]
  have := Own.ofBlk (l := [1]) (m := List.replicate n 0) (base := w1.heap.size) (Blk.new w1 (rowA ([1] ++ List.replicate n 0))) (Nat.le_refl _) (by simp [maxLen]; omega)
  have e2 : ([1] ++ List.replicate n 0).length = n + 1 := by simp
  rw [e2] at this
  exact this

set_option maxHeartbeats 2000000 in
theorem VanP_c (p : Nat) (l : List Nat) (a : Option Addr) (c : Nat) (w : World) (ha : Rd w a l) (hl : l.length ≤ 100000) :
    Calls Try.prog 61 #[.agg #[.int .u64 p], .slice a l.length c] w (SlPost w (if vld p then pvan p l else [])) := by
  cases hv : vld p
  · have H := Lib.hid hv
    have e : (if false = true then pvan p l else []) = ([] : List Nat) := rfl
    rw [e]
    clear ha
    go_enter Try.func61, Try.ntmps61
    go_wp2_with (go_at_call 39; refine (Valid_c _ _).mono ?_; rintro e w1 ⟨rfl, hb1⟩)
    go_ret
    exact ⟨_, rfl, Own.nil _ _, hb1.box⟩
  · have e : (if true = true then pvan p l else []) = pvan p l := rfl
    rw [e]
    have hmk : ∀ w, (Instr.makeSlice 23 (.int .i64 1) (.int .i64 ((l.length : Int) + 1))).run Try.prog w = .ok (.slice (some ⟨w.heap.size, 0, none⟩) 1 (l.length + 1)) (w.alloc (.cells (rowA (List.replicate (l.length + 1) 0)) 22)) := fun w => make_c 1 (l.length + 1) (by omega) (by omega) w
    have H := Lib.hid hv
    clear e hv
    go_enter Try.func61, Try.ntmps61
    go_wp2_with (go_at_call 39; refine (Valid_c _ _).mono ?_; rintro e w1 ⟨rfl, hb1⟩; rw [H.out])
    clear hmk
    go_loopw [5, 20] (VRel p l w1) (fun _ i _ => l.length - (intOf i).toNat)
    case atStart => exact ⟨0, rfl, Nat.zero_le _, van_start w1 l.length hl, (Ext.refl _).alloc _⟩
    case round =>
      obtain ⟨k, rfl, hk, hown, hext⟩ := hrel
      have hc := hext.cell hb1.boxCell
      by_cases hlt : k < l.length
      · obtain ⟨b, off, rfl, hcell⟩ := ha.at (by omega)
        have c1 := hext.cell (hb1.box.cell (hcell k hlt))
        have hVl := pvanK_len p l k
        have E : Hid (pvanK p l (k + 1) = vstep p (pvanK p l k) (l.getD k 0)) := Lib.hid rfl
        obtain ⟨x, hx0⟩ : ∃ x, x = l.getD k 0 := ⟨_, rfl⟩
        obtain ⟨V, hV0⟩ : ∃ V, V = pvanK p l k := ⟨_, rfl⟩
        rw [← hx0] at c1 E
        rw [← hV0] at E hVl hown
        have HO := Lib.hid hown
        have HE := Lib.hid hext
        have HV := Lib.hid hVl
        have hVle : V.length ≤ 100001 := by omega
        have hlen : Hid ((V ++ [0]).length = k + 2) := Lib.hid (by simp; omega)
        have HVI : Hid (V ++ [0] = tab (k + 2) (vin p x V (k + 1))) := Lib.hid (by have := vin_top p x V; rw [hVl] at this; exact this)
        clear hcell hx0 hV0 hown hVl
        go_wp2_with (at_builtin; refine wpList_app1 rfl (.tmp 24) (.tmp 25) rfl w1.heap.size _ _ rfl (HO.out.grow ((Ext.refl _).alloc _)) wr.heap.size 0 1 rfl (by simp) (by omega) (Nat.le_trans HE.out.size (by simp)) ?_; intro v' w2 hown2 hx2 _; obtain ⟨g, c2, hv', hbg, hcc, harr⟩ := hown2.arr (by simp); rw [hlen.out] at hv' hcc; subst hv'; rw [HVI.out] at harr; have HAR := Lib.hid harr; have hx3 := hx2 w1 (HE.out.alloc _) (Nat.le_refl _); clear hown2 hx2 harr)
        go_loopw [8] (VIn p x V (k + 2) c2 w1 g) (fun i _ => (intOf i).toNat)
        case atStart => exact ⟨k + 1, by go_num, by omega, HAR.out, hx3⟩
        case round =>
          obtain ⟨j, rfl, hj, harr, hxi⟩ := hrel
          have hcc2 := hxi.cell hb1.boxCell
          by_cases h0 : j = 0
          · subst h0
            have c3 := harr.at (i := 0) (by rw [tab_len]; omega)
            rw [tab_get _ _ _ (by omega), vin_at _ _ _ _ _ (by omega)] at c3
            have hst := vin_last p x V
            rw [HV.out] at hst
            obtain ⟨y, hy0⟩ : ∃ y, y = V.getD 0 0 := ⟨_, rfl⟩
            rw [← hy0] at c3 hst
            have HST := Lib.hid hst
            have HAR2 := Lib.hid harr
            clear hst hy0 harr
            go_wp2
            refine region_facts [[], [], [], [], [(3, 54)], [(4, 55)], [], [(2, 53), (5, 56), (6, 57)], [(1, 52), (7, 58)], [(0, 51)]] [some 51, some 52, some 53, some 54, some 55, some 56, some 57, some 58, some 59, some 60] (by kernel_rfl) (by kernel_rfl) ?_
            apply From.eq
            · intro w' hx; have hcc2x := hx.cell hcc2; have c3x := hx.cell c3; dsimp only [DepsV, fat, List.nil_append, List.cons_append, eqF]; go_wp2; exact OpPost.some _ rfl rfl (Ext.refl _) rfl
            apply From.eq
            · intro w' hx; have hcc2x := hx.cell hcc2; have c3x := hx.cell c3; dsimp only [DepsV, fat, List.nil_append, List.cons_append, eqF]; go_wp2; exact OpPost.some _ rfl rfl (Ext.refl _) rfl
            apply From.eq
            · intro w' hx; have hcc2x := hx.cell hcc2; have c3x := hx.cell c3; dsimp only [DepsV, fat, List.nil_append, List.cons_append, eqF]; go_wp2; exact OpPost.some _ rfl rfl (Ext.refl _) rfl
            apply From.eq
            · intro w' hx; have hcc2x := hx.cell hcc2; have c3x := hx.cell c3; dsimp only [DepsV, fat, List.nil_append, List.cons_append, eqF]; go_wp2; exact OpPost.some _ rfl rfl (Ext.refl _) rfl
            apply From.eq
            · intro w' hx; have hcc2x := hx.cell hcc2; have c3x := hx.cell c3; dsimp only [DepsV, fat, List.nil_append, List.cons_append, eqF]; rintro _ rfl; go_wp2; exact OpPost.some _ rfl rfl (Ext.refl _) rfl
            apply From.eq
            · intro w' hx; have hcc2x := hx.cell hcc2; have c3x := hx.cell c3; dsimp only [DepsV, fat, List.nil_append, List.cons_append, eqF]; rintro _ rfl; go_wp2; exact OpPost.some _ rfl rfl (Ext.refl _) rfl
            apply From.eq
            · intro w' hx; have hcc2x := hx.cell hcc2; have c3x := hx.cell c3; dsimp only [DepsV, fat, List.nil_append, List.cons_append, eqF]; go_wp2; exact OpPost.some _ rfl rfl (Ext.refl _) rfl
            apply From.eq
            · intro w' hx; have hcc2x := hx.cell hcc2; have c3x := hx.cell c3; dsimp only [DepsV, fat, List.nil_append, List.cons_append, eqF]; rintro _ rfl _ rfl _ rfl; go_wp2_with (go_at_call 44; refine (Mul_c _ _ _ _).mono ?_; rintro e w2 ⟨rfl, hb2⟩); exact OpPost.some _ rfl rfl hb2 rfl
            apply From.eq
            · intro w' hx; have hcc2x := hx.cell hcc2; have c3x := hx.cell c3; dsimp only [DepsV, fat, List.nil_append, List.cons_append, eqF]; rintro _ rfl _ rfl; go_wp2_with (go_at_call 78; refine (Neg_c _ _ _).mono ?_; rintro e w2 ⟨rfl, hb2⟩); exact OpPost.some _ rfl rfl hb2 rfl
            apply From.eq
            · intro w' hx; have hcc2x := hx.cell hcc2; have c3x := hx.cell c3; dsimp only [DepsV, fat, List.nil_append, List.cons_append, eqF]; rintro _ rfl; go_wp2; exact OpPost.some _ rfl rfl (Ext.refl _) rfl
            refine From.fin (fun w' hx => ?_)
            dsimp only [EndV, List.nil_append, List.cons_append, eqF]; rintro _ rfl _ rfl _ rfl _ rfl _ rfl _ rfl _ rfl _ rfl _ rfl _ rfl; simp only [Act.put, List.setIfInBounds_toArray, List.set_cons_zero, List.set_cons_succ]
            have d1 := hx.cell c3
            have d2 := (HAR2.out.ext hx).frozen 0
            go_wp2
            go_roundw
            case rel =>
              refine ⟨k + 1, by go_num, by omega, ?_, (hxi.trans hx).setNew hbg _⟩
              rw [E.out, ← HST.out]
              have h5 := ((HAR2.out.ext hx).set 0 (fneg p (fmul p y x)) (by rw [tab_len]; omega)).own (base := w1.heap.size) hbg
              rw [List.length_set, tab_len] at h5
              exact h5
            case measure => simp [intOf]; omega
          · obtain ⟨i, rfl⟩ : ∃ i, j = i + 1 := ⟨j - 1, by omega⟩
            have c3 := harr.at (i := i + 1) (by rw [tab_len]; omega)
            rw [tab_get _ _ _ (by omega), vin_at _ _ _ _ _ (by omega)] at c3
            have c4 := harr.at (i := i) (by rw [tab_len]; omega)
            rw [tab_get _ _ _ (by omega), vin_at _ _ _ _ _ (by omega)] at c4
            have hst := vin_step p x V (k + 2) i
            obtain ⟨y, hy0⟩ : ∃ y, y = V.getD (i + 1) 0 := ⟨_, rfl⟩
            obtain ⟨z, hz0⟩ : ∃ z, z = V.getD i 0 := ⟨_, rfl⟩
            rw [← hy0] at c3 hst
            rw [← hz0] at c4 hst
            have HST := Lib.hid hst
            have HAR2 := Lib.hid harr
            have z1 : (i : Int) + 1 - 1 = (i : Int) := by omega
            clear hst hy0 hz0 harr
            go_wp2
            refine region_facts [[], [], [], [], [], [(4, 38)], [(3, 37), (5, 39)], [(6, 40)], [], [], [], [(9, 43), (10, 44)], [(11, 45)], [], [(8, 42), (12, 46), (13, 47)], [(2, 36), (7, 41), (14, 48)], [(0, 34), (1, 35)]] [some 34, some 35, some 36, some 37, some 38, some 39, some 40, some 41, some 42, some 43, some 44, some 45, some 46, some 47, some 48, some 49, some 50] (by kernel_rfl) (by kernel_rfl) ?_
            apply From.eq
            · intro w' hx; have hcc2x := hx.cell hcc2; have c3x := hx.cell c3; have c4x := hx.cell c4; dsimp only [DepsV, fat, List.nil_append, List.cons_append, eqF]; go_wp2; exact OpPost.some _ rfl rfl (Ext.refl _) rfl
            apply From.eq
            · intro w' hx; have hcc2x := hx.cell hcc2; have c3x := hx.cell c3; have c4x := hx.cell c4; dsimp only [DepsV, fat, List.nil_append, List.cons_append, eqF]; go_wp2; exact OpPost.some _ rfl rfl (Ext.refl _) rfl
            apply From.eq
            · intro w' hx; have hcc2x := hx.cell hcc2; have c3x := hx.cell c3; have c4x := hx.cell c4; dsimp only [DepsV, fat, List.nil_append, List.cons_append, eqF]; go_wp2; exact OpPost.some _ rfl rfl (Ext.refl _) rfl
            apply From.eq
            · intro w' hx; have hcc2x := hx.cell hcc2; have c3x := hx.cell c3; have c4x := hx.cell c4; dsimp only [DepsV, fat, List.nil_append, List.cons_append, eqF]; go_wp2; exact OpPost.some _ rfl rfl (Ext.refl _) rfl
            apply From.eq
            · intro w' hx; have hcc2x := hx.cell hcc2; have c3x := hx.cell c3; have c4x := hx.cell c4; dsimp only [DepsV, fat, List.nil_append, List.cons_append, eqF]; go_wp2; exact OpPost.some _ rfl rfl (Ext.refl _) rfl
            apply From.eq
            · intro w' hx; have hcc2x := hx.cell hcc2; have c3x := hx.cell c3; have c4x := hx.cell c4; dsimp only [DepsV, fat, List.nil_append, List.cons_append, eqF]; rintro _ rfl; go_wp2; exact OpPost.some _ rfl rfl (Ext.refl _) rfl
            apply From.eq
            · intro w' hx; have hcc2x := hx.cell hcc2; have c3x := hx.cell c3; have c4x := hx.cell c4; dsimp only [DepsV, fat, List.nil_append, List.cons_append, eqF]; rintro _ rfl _ rfl; go_wp2; exact OpPost.some _ rfl rfl (Ext.refl _) rfl
            apply From.eq
            · intro w' hx; have hcc2x := hx.cell hcc2; have c3x := hx.cell c3; have c4x := hx.cell c4; dsimp only [DepsV, fat, List.nil_append, List.cons_append, eqF]; rintro _ rfl; go_wp2; exact OpPost.some _ rfl rfl (Ext.refl _) rfl
            apply From.eq
            · intro w' hx; have hcc2x := hx.cell hcc2; have c3x := hx.cell c3; have c4x := hx.cell c4; dsimp only [DepsV, fat, List.nil_append, List.cons_append, eqF]; go_wp2; exact OpPost.some _ rfl rfl (Ext.refl _) rfl
            apply From.eq
            · intro w' hx; have hcc2x := hx.cell hcc2; have c3x := hx.cell c3; have c4x := hx.cell c4; dsimp only [DepsV, fat, List.nil_append, List.cons_append, eqF]; go_wp2; exact OpPost.some _ rfl rfl (Ext.refl _) rfl
            apply From.eq
            · intro w' hx; have hcc2x := hx.cell hcc2; have c3x := hx.cell c3; have c4x := hx.cell c4; dsimp only [DepsV, fat, List.nil_append, List.cons_append, eqF]; go_wp2; exact OpPost.some _ rfl rfl (Ext.refl _) rfl
            apply From.eq
            · intro w' hx; have hcc2x := hx.cell hcc2; have c3x := hx.cell c3; have c4x := hx.cell c4; dsimp only [DepsV, fat, List.nil_append, List.cons_append, eqF]; rintro _ rfl _ rfl; go_wp2; exact OpPost.some _ rfl rfl (Ext.refl _) rfl
            apply From.eq
            · intro w' hx; have hcc2x := hx.cell hcc2; have c3x := hx.cell c3; have c4x := hx.cell c4; dsimp only [DepsV, fat, List.nil_append, List.cons_append, eqF]; rintro _ rfl; go_wp2; exact OpPost.some _ rfl rfl (Ext.refl _) rfl
            apply From.eq
            · intro w' hx; have hcc2x := hx.cell hcc2; have c3x := hx.cell c3; have c4x := hx.cell c4; dsimp only [DepsV, fat, List.nil_append, List.cons_append, eqF]; go_wp2; exact OpPost.some _ rfl rfl (Ext.refl _) rfl
            apply From.eq
            · intro w' hx; have hcc2x := hx.cell hcc2; have c3x := hx.cell c3; have c4x := hx.cell c4; dsimp only [DepsV, fat, List.nil_append, List.cons_append, eqF]; rintro _ rfl _ rfl _ rfl; go_wp2_with (go_at_call 44; refine (Mul_c _ _ _ _).mono ?_; rintro e w2 ⟨rfl, hb2⟩); exact OpPost.some _ rfl rfl hb2 rfl
            apply From.eq
            · intro w' hx; have hcc2x := hx.cell hcc2; have c3x := hx.cell c3; have c4x := hx.cell c4; dsimp only [DepsV, fat, List.nil_append, List.cons_append, eqF]; rintro _ rfl _ rfl _ rfl; go_wp2_with (go_at_call 68; refine (Sub_c _ _ _ _).mono ?_; rintro e w2 ⟨rfl, hb2⟩); exact OpPost.some _ rfl rfl hb2 rfl
            apply From.eq
            · intro w' hx; have hcc2x := hx.cell hcc2; have c3x := hx.cell c3; have c4x := hx.cell c4; dsimp only [DepsV, fat, List.nil_append, List.cons_append, eqF]; rintro _ rfl _ rfl; go_wp2; exact OpPost.some _ rfl rfl (Ext.refl _) rfl
            refine From.fin (fun w' hx => ?_)
            dsimp only [EndV, List.nil_append, List.cons_append, eqF]; rintro _ rfl _ rfl _ rfl _ rfl _ rfl _ rfl _ rfl _ rfl _ rfl _ rfl _ rfl _ rfl _ rfl _ rfl _ rfl _ rfl _ rfl; simp only [Act.put, List.setIfInBounds_toArray, List.set_cons_zero, List.set_cons_succ]
            have d1 := hx.cell c3
            have d2 := (HAR2.out.ext hx).frozen (i + 1)
            go_wp2
            go_roundw
            case rel =>
              refine ⟨i, by go_num, by omega, ?_, (hxi.trans hx).setNew hbg _⟩
              rw [← HST.out]; exact (HAR2.out.ext hx).set (i + 1) _ (by rw [tab_len]; omega)
            case measure => simp [intOf]
      · obtain rfl : k = l.length := by omega
        have HO := Lib.hid hown
        clear ha hown
        go_wp2
        go_ret
        exact ⟨_, rfl, HO.out.base hb1.box.size, hb1.box.trans hext⟩
end Go.Proofs.Ytcnbinjoeilfgaa
