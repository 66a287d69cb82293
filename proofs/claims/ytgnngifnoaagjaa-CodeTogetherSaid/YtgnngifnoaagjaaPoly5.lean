/- Contracts of package poly: DivMod. -/
import Derived.Test.YtgnngifnoaagjaaPoly4
namespace Go.Proofs.Ytgnngifnoaagjaa
open Go.RowKit

def DMPost (w : World) (q r : List Nat) (n : Int) (e : Ending) (w' : World) : Prop :=
  ∃ v u, e = .returned (.tuple #[v, u, .int .i64 n]) ∧ Own w' w.heap.size v q ∧ Own w' w.heap.size u r ∧ Ext w w'

def DOut (p : Nat) (A B : List Nat) (n inv : Nat) (w2 : World) (g1 c1 g2 : Nat) (s : Value) (wr : World) : Prop :=
  ∃ k : Nat, s = .int .i64 ((k : Int) - 1) ∧ k ≤ n ∧ Arr wr g1 (tab A.length (dR p A B n inv (n - k))) c1 ∧ Arr wr g2 (tab n (dQ p A B n inv k)) n ∧ Ext w2 wr
def DIn (p : Nat) (R : Nat → Nat) (la i fac : Nat) (B : List Nat) (w2 : World) (g1 c1 g2 n : Nat) (Q : List Nat) (s : Value) (wr : World) : Prop :=
  ∃ k : Nat, s = .int .i64 k ∧ k ≤ B.length ∧ Arr wr g1 (tab la (drow p R i fac B k)) c1 ∧ Arr wr g2 Q n ∧ Ext w2 wr

set_option maxHeartbeats 1000000 in
theorem DivMod_inv (p : Nat) (l m : List Nat) (a b : Option Addr) (c d : Nat) (w : World) (hv : vld p = false) :
    Calls Try.prog 70 #[.agg #[.int .u64 p], .slice a l.length c, .slice b m.length d] w (DMPost w [] [] 7) := by
  have H := Lib.hid hv
  clear hv
  go_enter Try.func70, Try.ntmps70
  go_wp2_with (go_at_call 39; refine (Valid_c _ _).mono ?_; rintro e w1 ⟨rfl, hb1⟩; rw [H.out])
  go_ret3
  exact ⟨_, _, rfl, Own.nil _ _, Own.nil _ _, hb1.box⟩

set_option maxRecDepth 100000 in
set_option maxHeartbeats 1000000 in
theorem DivMod_zero (p : Nat) (l m : List Nat) (a b : Option Addr) (c d : Nat) (w : World) (hv : vld p = true) (hb : Rd w b m) (hm : m.length ≤ 100000) (hz : (trimP p m).length = 0) :
    Calls Try.prog 70 #[.agg #[.int .u64 p], .slice a l.length c, .slice b m.length d] w (DMPost w [] [] 1) := by
  have H := Lib.hid hv
  have T := fun w' (h : Ext w w') => Trim_c p m b d w' (hb.ext h) (by omega)
  have HT := Lib.hid T
  have HZ := Lib.hid hz
  clear hv T hb hz
  go_enter Try.func70, Try.ntmps70
  go_wp2_with fail
  refine (Valid_c _ _).mono ?_; rintro e w1 ⟨rfl, hb1⟩; rw [H.out]; have hc := hb1.boxCell
  go_wp2_with fail
  refine (HT.out _ hb1.box).mono ?_; rintro e w2 ⟨v, rfl, ho, hn⟩
  obtain ⟨a', c', hv', _, _, _⟩ := ho.form
  rw [HZ.out] at hv'
  subst hv'
  clear ho
  go_wp2_with fail
  go_ret3
  exact ⟨_, _, rfl, Own.nil _ _, Own.nil _ _, hb1.box.trans hn⟩

set_option maxRecDepth 100000 in
set_option maxHeartbeats 1000000 in
theorem DivMod_short (p : Nat) (l m : List Nat) (a b : Option Addr) (c d : Nat) (w : World) (hv : vld p = true) (ha : Rd w a l) (hb : Rd w b m) (hl : l.length ≤ 100000) (hm : m.length ≤ 100000) (hz : 0 < (trimP p m).length) (hlt : (trimP p l).length < (trimP p m).length) :
    Calls Try.prog 70 #[.agg #[.int .u64 p], .slice a l.length c, .slice b m.length d] w (DMPost w [] (trimP p l) 0) := by
  have H := Lib.hid hv
  have T := fun w' (h : Ext w w') => Trim_c p m b d w' (hb.ext h) (by omega)
  have T2 := fun w' (h : Ext w w') => Trim_c p l a c w' (ha.ext h) (by omega)
  have HT := Lib.hid T
  have HT2 := Lib.hid T2
  have hA := trimP_le p l
  have hB := trimP_le p m
  obtain ⟨A, hA0⟩ : ∃ A, A = trimP p l := ⟨_, rfl⟩
  obtain ⟨B, hB0⟩ : ∃ B, B = trimP p m := ⟨_, rfl⟩
  rw [← hA0] at hA hlt HT2 ⊢
  rw [← hB0] at hB hlt hz HT
  clear hv T T2 hb ha hA0 hB0
  have t1 : ((B.length : Int) == 0) = false := beq_eq_false_iff_ne.2 (by omega)
  go_enter Try.func70, Try.ntmps70
  go_wp2_with fail
  refine (Valid_c _ _).mono ?_; rintro e w1 ⟨rfl, hb1⟩; rw [H.out]; have hc := hb1.boxCell
  go_wp2_with fail
  refine (HT.out _ hb1.box).mono ?_; rintro e w2 ⟨v, rfl, ho, hn⟩
  obtain ⟨a', c', rfl, _, _, _⟩ := ho.form
  clear ho
  replace hc := hn.cell hc
  go_wp2_with fail
  refine (HT2.out _ (hb1.box.trans hn)).mono ?_; rintro e w3 ⟨v, rfl, ho, hn2⟩
  obtain ⟨a2, c2, rfl, _, _, _⟩ := ho.form
  have HO := Lib.hid ho
  clear ho
  go_wp2_with fail
  go_ret3
  exact ⟨_, _, rfl, Own.nil _ _, HO.out.base (hb1.box.trans hn).size, (hb1.box.trans hn).trans hn2⟩

set_option maxRecDepth 100000 in
set_option maxHeartbeats 4000000 in
theorem DivMod_long (p : Nat) (l m : List Nat) (a b : Option Addr) (c d : Nat) (w : World) (hv : vld p = true) (ha : Rd w a l) (hb : Rd w b m) (hl : l.length ≤ 100000) (hm : m.length ≤ 100000) (hz : 0 < (trimP p m).length) (hlt : (trimP p m).length ≤ (trimP p l).length) :
    Calls Try.prog 70 #[.agg #[.int .u64 p], .slice a l.length c, .slice b m.length d] w (DMPost w (pquo p l m) (prem p l m) 0) := by
  have H := Lib.hid hv
  have T := fun w' (h : Ext w w') => Trim_c p m b d w' (hb.ext h) (by omega)
  have T2 := fun w' (h : Ext w w') => Trim_c p l a c w' (ha.ext h) (by omega)
  have HT := Lib.hid T
  have HT2 := Lib.hid T2
  have hA := trimP_le p l
  have hB := trimP_le p m
  have hq : pquo p l m = trimZ (tab (dvN p l m) (dQ p (trimP p l) (trimP p m) (dvN p l m) (dvI p m) 0)) := by unfold pquo; rw [if_neg (by omega)]
  have hr : prem p l m = trimZ (tab (trimP p l).length (dR p (trimP p l) (trimP p m) (dvN p l m) (dvI p m) (dvN p l m))) := by unfold prem; rw [if_neg (by omega)]
  have hi0 : dvI p m = finv p ((trimP p m).getD ((trimP p m).length - 1) 0) := rfl
  have hn0 : dvN p l m = (trimP p l).length - (trimP p m).length + 1 := rfl
  obtain ⟨A, hA0⟩ : ∃ A, A = trimP p l := ⟨_, rfl⟩
  obtain ⟨B, hB0⟩ : ∃ B, B = trimP p m := ⟨_, rfl⟩
  obtain ⟨n, hnn⟩ : ∃ n, n = dvN p l m := ⟨_, rfl⟩
  obtain ⟨inv, hinv⟩ : ∃ inv, inv = dvI p m := ⟨_, rfl⟩
  rw [← hA0] at hA hlt HT2 hq hr hn0
  rw [← hB0] at hB hlt hz HT hq hr hn0 hi0
  rw [← hnn] at hq hr hn0
  rw [← hinv] at hq hr hi0
  have HQ := Lib.hid hq
  have HR := Lib.hid hr
  have HI := Lib.hid hi0
  have n1 : B.length + n ≤ A.length + 1 := by omega
  have n2 : A.length + 1 ≤ B.length + n := by omega
  have n3 : 1 ≤ n := by omega
  have hnv : (A.length : Int) - B.length + 1 = (n : Int) := by omega
  have hmk := make_c n n (Nat.le_refl _) (by omega)
  clear hv T T2 hb ha hA0 hB0 hq hr hi0 hn0 hnn hinv
  have t1 : ((B.length : Int) == 0) = false := beq_eq_false_iff_ne.2 (by omega)
  go_enter Try.func70, Try.ntmps70
  go_wp2_with fail
  refine (Valid_c _ _).mono ?_; rintro e w1 ⟨rfl, hb1⟩; rw [H.out]; have hc := hb1.boxCell
  go_wp2_with fail
  refine (HT.out _ hb1.box).mono ?_; rintro e w2 ⟨v, rfl, ho, hn⟩
  obtain ⟨aB, cB, rfl, _, _, hrB⟩ := ho.form
  obtain ⟨bB, oB, rfl, hcB⟩ := hrB.at (by omega)
  have HCB := Lib.hid hcB
  replace hc := hn.cell hc
  clear ho hrB hcB
  go_wp2_with fail
  refine (HT2.out _ (hb1.box.trans hn)).mono ?_; rintro e w3 ⟨v, rfl, ho, hn2⟩
  obtain ⟨g1, c1, rfl, hg1, hlc1, har1⟩ := ho.arr (by omega)
  have HA1 := Lib.hid har1
  have hc3 := hn2.cell hc
  clear ho har1
  go_wp2_with fail
  have HCL := Lib.hid (HCB.out (B.length - 1) (by omega))
  have hcl := ((hn2.alloc (.cells (rowA (List.replicate n 0)) 22))).cell HCL.out
  have hc4 : (w3.alloc (.cells (rowA (List.replicate n 0)) 22)).cell? ⟨w.heap.size, 0, none⟩ = some (.int .u64 p) := ((Ext.refl w3).alloc _).cell hc3
  obtain ⟨y, hy0⟩ : ∃ y, y = B.getD (B.length - 1) 0 := ⟨_, rfl⟩
  rw [← hy0] at hcl
  have HI2 : Hid (inv = finv p y) := Lib.hid (by rw [HI.out, hy0])
  clear hy0 HCL
  have i1 : (0 : Int) ≤ (B.length : Int) - 1 := by omega
  refine region_facts [[], [], [], [(2, 43)], [(3, 44)], [(1, 42), (4, 45)], [(5, 46)], [(0, 41), (6, 47)], [(7, 48)]] [some 41, some 42, some 43, some 44, some 45, some 46, some 47, some 48, some 11] (by kernel_rfl) (by kernel_rfl) ?_
  apply From.eq
  · intro w' hx; have hc4x := hx.cell hc4; have hclx := hx.cell hcl; dsimp only [DepsV, fat, List.nil_append, List.cons_append, eqF]; go_wp2; exact OpPost.some _ rfl rfl (Ext.refl _) rfl
  apply From.eq
  · intro w' hx; have hc4x := hx.cell hc4; have hclx := hx.cell hcl; dsimp only [DepsV, fat, List.nil_append, List.cons_append, eqF]; go_wp2; exact OpPost.some _ rfl rfl (Ext.refl _) rfl
  apply From.eq
  · intro w' hx; have hc4x := hx.cell hc4; have hclx := hx.cell hcl; dsimp only [DepsV, fat, List.nil_append, List.cons_append, eqF]; go_wp2; exact OpPost.some _ rfl rfl (Ext.refl _) rfl
  apply From.eq
  · intro w' hx; have hc4x := hx.cell hc4; have hclx := hx.cell hcl; dsimp only [DepsV, fat, List.nil_append, List.cons_append, eqF]; rintro _ rfl; go_wp2; exact OpPost.some _ rfl rfl (Ext.refl _) rfl
  apply From.eq
  · intro w' hx; have hc4x := hx.cell hc4; have hclx := hx.cell hcl; dsimp only [DepsV, fat, List.nil_append, List.cons_append, eqF]; rintro _ rfl; go_wp2; exact OpPost.some _ rfl rfl (Ext.refl _) rfl
  apply From.eq
  · intro w' hx; have hc4x := hx.cell hc4; have hclx := hx.cell hcl; dsimp only [DepsV, fat, List.nil_append, List.cons_append, eqF]; rintro _ rfl _ rfl; go_wp2; exact OpPost.some _ rfl rfl (Ext.refl _) rfl
  apply From.eq
  · intro w' hx; have hc4x := hx.cell hc4; have hclx := hx.cell hcl; dsimp only [DepsV, fat, List.nil_append, List.cons_append, eqF]; rintro _ rfl; go_wp2; exact OpPost.some _ rfl rfl (Ext.refl _) rfl
  apply From.eq
  · intro w' hx; have hc4x := hx.cell hc4; have hclx := hx.cell hcl; dsimp only [DepsV, fat, List.nil_append, List.cons_append, eqF]; rintro _ rfl _ rfl; go_wp2_with (go_at_call 57; refine (Inv_c _ _ _).mono ?_; rintro e w2 ⟨rfl, hb2⟩); exact OpPost.some _ rfl rfl hb2 rfl
  apply From.eq
  · intro w' hx; have hc4x := hx.cell hc4; have hclx := hx.cell hcl; dsimp only [DepsV, fat, List.nil_append, List.cons_append, eqF]; rintro _ rfl; go_wp2; exact OpPost.some _ rfl rfl (Ext.refl _) rfl
  refine From.fin (fun w' hx => ?_)
  dsimp only [EndV, List.nil_append, List.cons_append, eqF]; rintro _ rfl _ rfl _ rfl _ rfl _ rfl _ rfl _ rfl _ rfl _ rfl; simp only [Act.put, List.setIfInBounds_toArray, List.set_cons_zero, List.set_cons_succ]
  have hxa : Ext w2 w' := (hn2.alloc (.cells (rowA (List.replicate n 0)) 22)).trans hx
  have HXA := Lib.hid hxa
  have HA2 : Hid (Arr w' g1 A c1) := Lib.hid ((HA1.out.ext ((Ext.refl w3).alloc _)).ext hx)
  have HQ2 : Hid (Arr w' w3.heap.size (List.replicate n 0) n) := Lib.hid (by
    have := (Arr.ofBlk (Blk.new w3 (rowA (List.replicate n 0))) (by simp; omega)).ext hx
    rwa [List.length_replicate] at this)
  have hgg : g1 < w3.heap.size := HA1.out.lt
  have hw2 : w2.heap.size ≤ g1 := hg1
  have hw3 : w2.heap.size ≤ w3.heap.size := hn2.size
  obtain ⟨g2, hg2⟩ : ∃ g2, g2 = w3.heap.size := ⟨_, rfl⟩
  rw [← hg2]
  rw [← hg2] at HQ2 hgg hw3
  rw [← HI2.out]
  clear hcl hc4 hx hxa hg2 hmk hnv hc3 HA1
  go_wp2_with fail
  go_loopw [12] (DOut p A B n inv w2 g1 c1 g2) (fun s _ => (intOf s + 1).toNat)
  case atStart =>
    refine ⟨n, by go_num, Nat.le_refl _, ?_, by rw [dQ_top]; exact HQ2.out, HXA.out⟩
    rw [Nat.sub_self]
    have e : tab A.length (dR p A B n inv 0) = A := (list_tab A).symm
    rw [e]; exact HA2.out
  case round =>
    obtain ⟨k, rfl, hk, ar1, ar2, hxr⟩ := hrel
    have hcr := hxr.cell hc
    by_cases h0 : k = 0
    · subst h0
      rw [Nat.sub_zero] at ar1
      have S1 := shorten_c (tab n (dQ p A B n inv 0)) (some ⟨g2, 0, none⟩) n wr ar2.rd (by rw [tab_len]; exact Nat.le_refl _) (by omega)
      rw [tab_len] at S1
      have hcm : c1 ≤ 9223372036854775807 := by obtain ⟨_, _, _, _, hm, _⟩ := ar1; simpa [maxLen] using hm
      have S2 := shorten_c (tab A.length (dR p A B n inv n)) (some ⟨g1, 0, none⟩) c1 wr ar1.rd (by rw [tab_len]; exact hlc1) hcm
      rw [tab_len] at S2
      have HS1 := Lib.hid S1
      have HS2 := Lib.hid S2
      have HR1 := Lib.hid ar1
      have HR2 := Lib.hid ar2
      clear ar1 ar2 S1 S2
      go_wp2_with fail
      refine HS1.out.mono ?_; rintro e w4 ⟨rfl, rfl⟩
      go_wp2_with fail
      refine HS2.out.mono ?_; rintro e w4 ⟨rfl, rfl⟩
      go_wp2_with fail
      go_ret3
      have hww : w.heap.size ≤ w2.heap.size := (hb1.box.trans hn).size
      refine ⟨_, _, rfl, ?_, ?_, (hb1.box.trans hn).trans hxr⟩
      · rw [HQ.out]
        have h1 := (HR2.out.short (trimZ (tab n (dQ p A B n inv 0))).length).own (base := w.heap.size) (by omega)
        rw [trimZ_take] at h1
        exact h1
      · rw [HR.out]
        have h1 := (HR1.out.short (trimZ (tab A.length (dR p A B n inv n))).length).own (base := w.heap.size) (by omega)
        rw [trimZ_take] at h1
        exact h1
    · obtain ⟨j, rfl⟩ : ∃ j, k = j + 1 := ⟨k - 1, by omega⟩
      have hst := dR_step p A B n inv j (by omega)
      have hqs := dQ_step p A B n inv j
      have hfa : dfac p A B n inv j = fmul p (dR p A B n inv (n - (j + 1)) (j + B.length - 1)) inv := by unfold dfac; rw [show n - 1 - j = n - (j + 1) by omega]
      have c3 := ar1.at (i := j + B.length - 1) (by rw [tab_len]; omega)
      rw [tab_get _ _ _ (by omega)] at c3
      obtain ⟨fac, hfac⟩ : ∃ fac, fac = dfac p A B n inv j := ⟨_, rfl⟩
      obtain ⟨R, hR0⟩ : ∃ R, R = dR p A B n inv (n - (j + 1)) := ⟨_, rfl⟩
      rw [← hR0] at hst c3 hfa ar1
      rw [← hfac] at hst hqs hfa
      obtain ⟨z, hz0⟩ : ∃ z, z = R (j + B.length - 1) := ⟨_, rfl⟩
      rw [← hz0] at c3 hfa
      have HST := Lib.hid hst
      have HQS := Lib.hid hqs
      have HFA := Lib.hid hfa
      have HR1 := Lib.hid ar1
      have HR2 := Lib.hid ar2
      have z1 : ((j + 1 : Nat) : Int) - 1 = (j : Int) := by omega
      rw [z1]
      have i2 : (0 : Int) ≤ (j : Int) + B.length - 1 := by omega
      have i3 : ((j : Int) + B.length - 1).toNat = j + B.length - 1 := by omega
      have i4 : IntKind.i64.wrap ((j : Int) + B.length) = (j : Int) + B.length := by rw [IntKind.wrap_i64]; omega
      have i5 : IntKind.i64.wrap ((j : Int) + B.length - 1) = (j : Int) + B.length - 1 := by rw [IntKind.wrap_i64]; omega
      clear hst hqs hfa hfac hR0 hz0 ar1 ar2 z1
      go_wp2_with fail
      refine region_facts [[], [], [], [], [(3, 59)], [(2, 58), (4, 60)], [(5, 61)], [(1, 57), (6, 62)], [(7, 63)], [], [(0, 56), (8, 64), (9, 65)], [(10, 66)]] [some 56, some 57, some 58, some 59, some 60, some 61, some 62, some 63, some 64, some 65, some 66, some 13] (by kernel_rfl) (by kernel_rfl) ?_
      apply From.eq
      · intro w' hx; have hcrx := hx.cell hcr; have c3x := hx.cell c3; dsimp only [DepsV, fat, List.nil_append, List.cons_append, eqF]; go_wp2; exact OpPost.some _ rfl rfl (Ext.refl _) rfl
      apply From.eq
      · intro w' hx; have hcrx := hx.cell hcr; have c3x := hx.cell c3; dsimp only [DepsV, fat, List.nil_append, List.cons_append, eqF]; go_wp2; exact OpPost.some _ rfl rfl (Ext.refl _) rfl
      apply From.eq
      · intro w' hx; have hcrx := hx.cell hcr; have c3x := hx.cell c3; dsimp only [DepsV, fat, List.nil_append, List.cons_append, eqF]; go_wp2; exact OpPost.some _ rfl rfl (Ext.refl _) rfl
      apply From.eq
      · intro w' hx; have hcrx := hx.cell hcr; have c3x := hx.cell c3; dsimp only [DepsV, fat, List.nil_append, List.cons_append, eqF]; go_wp2; exact OpPost.some _ rfl rfl (Ext.refl _) rfl
      apply From.eq
      · intro w' hx; have hcrx := hx.cell hcr; have c3x := hx.cell c3; dsimp only [DepsV, fat, List.nil_append, List.cons_append, eqF]; rintro _ rfl; go_wp2; exact OpPost.some _ rfl rfl (Ext.refl _) rfl
      apply From.eq
      · intro w' hx; have hcrx := hx.cell hcr; have c3x := hx.cell c3; dsimp only [DepsV, fat, List.nil_append, List.cons_append, eqF]; rintro _ rfl _ rfl; go_wp2; exact OpPost.some _ rfl rfl (Ext.refl _) rfl
      apply From.eq
      · intro w' hx; have hcrx := hx.cell hcr; have c3x := hx.cell c3; dsimp only [DepsV, fat, List.nil_append, List.cons_append, eqF]; rintro _ rfl; go_wp2; exact OpPost.some _ rfl rfl (Ext.refl _) rfl
      apply From.eq
      · intro w' hx; have hcrx := hx.cell hcr; have c3x := hx.cell c3; dsimp only [DepsV, fat, List.nil_append, List.cons_append, eqF]; rintro _ rfl _ rfl; go_wp2; exact OpPost.some _ rfl rfl (Ext.refl _) rfl
      apply From.eq
      · intro w' hx; have hcrx := hx.cell hcr; have c3x := hx.cell c3; dsimp only [DepsV, fat, List.nil_append, List.cons_append, eqF]; rintro _ rfl; go_wp2; exact OpPost.some _ rfl rfl (Ext.refl _) rfl
      apply From.eq
      · intro w' hx; have hcrx := hx.cell hcr; have c3x := hx.cell c3; dsimp only [DepsV, fat, List.nil_append, List.cons_append, eqF]; go_wp2; exact OpPost.some _ rfl rfl (Ext.refl _) rfl
      apply From.eq
      · intro w' hx; have hcrx := hx.cell hcr; have c3x := hx.cell c3; dsimp only [DepsV, fat, List.nil_append, List.cons_append, eqF]; rintro _ rfl _ rfl _ rfl; go_wp2_with (go_at_call 44; refine (Mul_c _ _ _ _).mono ?_; rintro e w2 ⟨rfl, hb2⟩); exact OpPost.some _ rfl rfl hb2 rfl
      apply From.eq
      · intro w' hx; have hcrx := hx.cell hcr; have c3x := hx.cell c3; dsimp only [DepsV, fat, List.nil_append, List.cons_append, eqF]; rintro _ rfl; go_wp2; exact OpPost.some _ rfl rfl (Ext.refl _) rfl
      refine From.fin (fun w' hx => ?_)
      dsimp only [EndV, List.nil_append, List.cons_append, eqF]; rintro _ rfl _ rfl _ rfl _ rfl _ rfl _ rfl _ rfl _ rfl _ rfl _ rfl _ rfl _ rfl; simp only [Act.put, List.setIfInBounds_toArray, List.set_cons_zero, List.set_cons_succ]
      rw [← HFA.out]
      have e1 := (HR2.out.ext hx).at (i := j) (by rw [tab_len]; omega)
      have e2 := (HR2.out.ext hx).frozen j
      obtain ⟨o, ho⟩ : ∃ o, o = (tab n (dQ p A B n inv (j + 1))).getD j 0 := ⟨_, rfl⟩
      rw [← ho] at e1
      have HX := Lib.hid hx
      clear ho i2 i3 i4 i5
      by_cases hf0 : fac = 0
      · have t2 : ((fac : Int) == 0) = true := by rw [hf0]; rfl
        have E2 : Hid (dR p A B n inv (n - j) = R) := Lib.hid (by rw [HST.out, if_pos hf0])
        clear hf0
        go_wp2_with fail
        go_roundw
        case rel =>
          refine ⟨j, by go_num, by omega, ?_, ?_, (hxr.trans HX.out).setNew hw3 _⟩
          · rw [E2.out]; exact (HR1.out.ext HX.out).far (by simp; omega) _
          · rw [← HQS.out]; exact (HR2.out.ext HX.out).set j _ (by rw [tab_len]; omega)
        case measure => simp [intOf]
      · have t2 : ((fac : Int) == 0) = false := beq_eq_false_iff_ne.2 (by omega)
        have E2 : Hid (dR p A B n inv (n - j) = drow p R j fac B B.length) := Lib.hid (by rw [HST.out, if_neg hf0])
        clear hf0
        go_wp2_with fail
        go_loopw [75] (DIn p R A.length j fac B w2 g1 c1 g2 n (tab n (dQ p A B n inv j))) (fun i _ => B.length - (intOf i).toNat)
        case atStart =>
          refine ⟨0, rfl, Nat.zero_le _, ?_, ?_, (hxr.trans HX.out).setNew hw3 _⟩
          · rw [drow_zero]; exact (HR1.out.ext HX.out).far (by simp; omega) _
          · rw [← HQS.out]; exact (HR2.out.ext HX.out).set j _ (by rw [tab_len]; omega)
        case round =>
          clear hx HX e1 e2 hxr hcr c3
          obtain ⟨k, rfl, hk2, ar1, ar2, hxi⟩ := hrel
          have hcc := hxi.cell hc
          by_cases hlt2 : k < B.length
          · have c2 := hxi.cell (HCB.out k hlt2)
            have c3 := ar1.at (i := j + k) (by rw [tab_len]; omega)
            rw [tab_get _ _ _ (by omega), drow_at] at c3
            obtain ⟨y2, hy0⟩ : ∃ y2, y2 = B.getD k 0 := ⟨_, rfl⟩
            obtain ⟨z2, hz0⟩ : ∃ z2, z2 = R (j + k) := ⟨_, rfl⟩
            have hst := drow_step p R j fac B k A.length
            rw [← hy0] at c2
            rw [← hz0] at c3
            rw [← hy0, ← hz0] at hst
            have HST2 := Lib.hid hst
            have HAR := Lib.hid ar1
            have HAR2 := Lib.hid ar2
            clear hy0 hz0 hst ar1 ar2
            go_wp2_with fail
            refine region_facts [[], [], [], [(1, 81), (2, 82)], [], [], [], [], [(6, 86), (7, 87)], [(5, 85), (8, 88)], [(9, 89)], [], [], [], [(11, 91), (12, 92), (13, 93)], [(4, 84), (10, 90), (14, 94)], [(0, 80), (3, 83)]] [some 80, some 81, some 82, some 83, some 84, some 85, some 86, some 87, some 88, some 89, some 90, some 91, some 92, some 93, some 94, some 95, some 96] (by kernel_rfl) (by kernel_rfl) ?_
            apply From.eq
            · intro w' hx; have hccx := hx.cell hcc; have c2x := hx.cell c2; have c3x := hx.cell c3; dsimp only [DepsV, fat, List.nil_append, List.cons_append, eqF]; go_wp2; exact OpPost.some _ rfl rfl (Ext.refl _) rfl
            apply From.eq
            · intro w' hx; have hccx := hx.cell hcc; have c2x := hx.cell c2; have c3x := hx.cell c3; dsimp only [DepsV, fat, List.nil_append, List.cons_append, eqF]; go_wp2; exact OpPost.some _ rfl rfl (Ext.refl _) rfl
            apply From.eq
            · intro w' hx; have hccx := hx.cell hcc; have c2x := hx.cell c2; have c3x := hx.cell c3; dsimp only [DepsV, fat, List.nil_append, List.cons_append, eqF]; go_wp2; exact OpPost.some _ rfl rfl (Ext.refl _) rfl
            apply From.eq
            · intro w' hx; have hccx := hx.cell hcc; have c2x := hx.cell c2; have c3x := hx.cell c3; dsimp only [DepsV, fat, List.nil_append, List.cons_append, eqF]; rintro _ rfl _ rfl; go_wp2; exact OpPost.some _ rfl rfl (Ext.refl _) rfl
            apply From.eq
            · intro w' hx; have hccx := hx.cell hcc; have c2x := hx.cell c2; have c3x := hx.cell c3; dsimp only [DepsV, fat, List.nil_append, List.cons_append, eqF]; go_wp2; exact OpPost.some _ rfl rfl (Ext.refl _) rfl
            apply From.eq
            · intro w' hx; have hccx := hx.cell hcc; have c2x := hx.cell c2; have c3x := hx.cell c3; dsimp only [DepsV, fat, List.nil_append, List.cons_append, eqF]; go_wp2; exact OpPost.some _ rfl rfl (Ext.refl _) rfl
            apply From.eq
            · intro w' hx; have hccx := hx.cell hcc; have c2x := hx.cell c2; have c3x := hx.cell c3; dsimp only [DepsV, fat, List.nil_append, List.cons_append, eqF]; go_wp2; exact OpPost.some _ rfl rfl (Ext.refl _) rfl
            apply From.eq
            · intro w' hx; have hccx := hx.cell hcc; have c2x := hx.cell c2; have c3x := hx.cell c3; dsimp only [DepsV, fat, List.nil_append, List.cons_append, eqF]; go_wp2; exact OpPost.some _ rfl rfl (Ext.refl _) rfl
            apply From.eq
            · intro w' hx; have hccx := hx.cell hcc; have c2x := hx.cell c2; have c3x := hx.cell c3; dsimp only [DepsV, fat, List.nil_append, List.cons_append, eqF]; rintro _ rfl _ rfl; go_wp2; exact OpPost.some _ rfl rfl (Ext.refl _) rfl
            apply From.eq
            · intro w' hx; have hccx := hx.cell hcc; have c2x := hx.cell c2; have c3x := hx.cell c3; dsimp only [DepsV, fat, List.nil_append, List.cons_append, eqF]; rintro _ rfl _ rfl; go_wp2; exact OpPost.some _ rfl rfl (Ext.refl _) rfl
            apply From.eq
            · intro w' hx; have hccx := hx.cell hcc; have c2x := hx.cell c2; have c3x := hx.cell c3; dsimp only [DepsV, fat, List.nil_append, List.cons_append, eqF]; rintro _ rfl; go_wp2; exact OpPost.some _ rfl rfl (Ext.refl _) rfl
            apply From.eq
            · intro w' hx; have hccx := hx.cell hcc; have c2x := hx.cell c2; have c3x := hx.cell c3; dsimp only [DepsV, fat, List.nil_append, List.cons_append, eqF]; go_wp2; exact OpPost.some _ rfl rfl (Ext.refl _) rfl
            apply From.eq
            · intro w' hx; have hccx := hx.cell hcc; have c2x := hx.cell c2; have c3x := hx.cell c3; dsimp only [DepsV, fat, List.nil_append, List.cons_append, eqF]; go_wp2; exact OpPost.some _ rfl rfl (Ext.refl _) rfl
            apply From.eq
            · intro w' hx; have hccx := hx.cell hcc; have c2x := hx.cell c2; have c3x := hx.cell c3; dsimp only [DepsV, fat, List.nil_append, List.cons_append, eqF]; go_wp2; exact OpPost.some _ rfl rfl (Ext.refl _) rfl
            apply From.eq
            · intro w' hx; have hccx := hx.cell hcc; have c2x := hx.cell c2; have c3x := hx.cell c3; dsimp only [DepsV, fat, List.nil_append, List.cons_append, eqF]; rintro _ rfl _ rfl _ rfl; go_wp2_with (go_at_call 44; refine (Mul_c _ _ _ _).mono ?_; rintro e w2 ⟨rfl, hb2⟩); exact OpPost.some _ rfl rfl hb2 rfl
            apply From.eq
            · intro w' hx; have hccx := hx.cell hcc; have c2x := hx.cell c2; have c3x := hx.cell c3; dsimp only [DepsV, fat, List.nil_append, List.cons_append, eqF]; rintro _ rfl _ rfl _ rfl; go_wp2_with (go_at_call 58; refine (Sub_c _ _ _ _).mono ?_; rintro e w2 ⟨rfl, hb2⟩); exact OpPost.some _ rfl rfl hb2 rfl
            apply From.eq
            · intro w' hx; have hccx := hx.cell hcc; have c2x := hx.cell c2; have c3x := hx.cell c3; dsimp only [DepsV, fat, List.nil_append, List.cons_append, eqF]; rintro _ rfl _ rfl; go_wp2; exact OpPost.some _ rfl rfl (Ext.refl _) rfl
            refine From.fin (fun w' hx => ?_)
            dsimp only [EndV, List.nil_append, List.cons_append, eqF]; rintro _ rfl _ rfl _ rfl _ rfl _ rfl _ rfl _ rfl _ rfl _ rfl _ rfl _ rfl _ rfl _ rfl _ rfl _ rfl _ rfl _ rfl; simp only [Act.put, List.setIfInBounds_toArray, List.set_cons_zero, List.set_cons_succ]
            have d1 := hx.cell c3
            have d2 := (HAR.out.ext hx).frozen (j + k)
            go_wp2_with fail
            go_roundw
            case rel =>
              refine ⟨k + 1, by go_num, by omega, ?_, (HAR2.out.ext hx).far (by simp; omega) _, (hxi.trans hx).setNew hw2 _⟩
              rw [← HST2.out]; exact (HAR.out.ext hx).set (j + k) _ (by rw [tab_len]; omega)
            case measure => simp [intOf]; omega
          · obtain rfl : k = B.length := by omega
            have HAR := Lib.hid ar1
            have HAR2 := Lib.hid ar2
            clear ar1 ar2
            go_wp2_with fail
            go_roundw
            case rel => exact ⟨j, by go_num, by omega, by rw [E2.out]; exact HAR.out, HAR2.out, hxi⟩
            case measure => simp [intOf]
end Go.Proofs.Ytgnngifnoaagjaa
