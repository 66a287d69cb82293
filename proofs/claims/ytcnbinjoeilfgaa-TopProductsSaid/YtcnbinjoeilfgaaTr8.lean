/- Contract of transform.Multiply. -/
import Derived.Test.YtcnbinjoeilfgaaTr7
import Derived.Test.YtcnbinjoeilfgaaGN
namespace Go.Proofs.Ytcnbinjoeilfgaa
open Go.RowKit

def fitN (L : Nat) : Nat := if L ≤ 1 then 1 else 2 ^ (Nat.log2 (L - 1) + 1)
theorem fitN_eq {L e : Nat} (h1 : L ≤ 2 ^ e) (h2 : e = 0 ∨ 2 ^ (e - 1) < L) : fitN L = 2 ^ e := by
  unfold fitN
  by_cases h : L ≤ 1
  · rw [if_pos h]
    rcases h2 with h2 | h2
    · rw [h2]
    · have := Nat.two_pow_pos (e - 1); omega
  · rw [if_neg h]
    rcases h2 with h2 | h2
    · subst h2; simp at h1; omega
    · have he : e - 1 + 1 = e := by
        rcases Nat.eq_zero_or_pos e with h3 | h3
        · subst h3; simp at h1; omega
        · omega
      rw [(Nat.log2_eq_iff (k := e - 1) (by omega)).2 ⟨by omega, by rw [he]; omega⟩, he]
def tM (p : Nat) (a b : List Nat) : List Nat × Int :=
  if vld p = false then ([], 7) else if a.length = 0 ∨ b.length = 0 then ([], 0) else if okT p (fitN (a.length + b.length - 1)) = true then (tMul p a b, 0) else ([], 3)

def FitRel (L : Nat) (w1 : World) (s : Value) (wr : World) : Prop := ∃ e n : Nat, s = .int .i64 n ∧ n = 2 ^ e ∧ (e = 0 ∨ 2 ^ (e - 1) < L) ∧ Ext w1 wr
def ZRel (p : Nat) (X Y : List Nat) (gx cx : Nat) (w1 : World) (s : Value) (wr : World) : Prop :=
  ∃ k : Nat, s = .int .i64 k ∧ k ≤ X.length ∧ Arr wr gx (tab X.length (fun t => if t < k then fmul p (X.getD t 0) (Y.getD t 0) else X.getD t 0)) cx ∧ But gx w1 wr

set_option maxRecDepth 100000 in
set_option maxHeartbeats 4000000 in
theorem Multiply_c (p : Nat) (l m : List Nat) (a b : Option Addr) (c d : Nat) (w : World) (ha : Rd w a l) (hb : Rd w b m) (hl : l.length + m.length ≤ 200) :
    Calls Try.prog 24 #[.agg #[.int .u64 p], .slice a l.length c, .slice b m.length d] w (IPost w (tM p l m).1 (tM p l m).2) := by
  have HA := Lib.hid ha
  have HB := Lib.hid hb
  clear ha hb
  cases hv : vld p
  · have V := Lib.hid hv
    have E : Hid (tM p l m = ([], 7)) := Lib.hid (by unfold tM; rw [if_pos hv])
    clear hv
    go_enter Try.func24, Try.ntmps24
    go_wp2_with fail
    refine (Valid_c _ _).mono ?_; rintro e w1 ⟨rfl, x1⟩; rw [V.out]
    go_wp2_with fail
    go_ret2
    rw [E.out]; exact ⟨_, rfl, Own.nil _ _, x1.box⟩
  have V := Lib.hid hv
  clear hv
  by_cases h0 : l.length = 0
  · have E : Hid (tM p l m = ([], 0)) := Lib.hid (by unfold tM; rw [if_neg (by rw [V.out]; simp), if_pos (.inl h0)])
    rw [h0]
    clear h0
    go_enter Try.func24, Try.ntmps24
    go_wp2_with fail
    refine (Valid_c _ _).mono ?_; rintro e w1 ⟨rfl, x1⟩; rw [V.out]
    go_wp2_with fail
    go_ret2
    rw [E.out]; exact ⟨_, rfl, Own.nil _ _, x1.box⟩
  have t0 : ((l.length : Int) == 0) = false := beq_eq_false_iff_ne.2 (by omega)
  by_cases h1 : m.length = 0
  · have E : Hid (tM p l m = ([], 0)) := Lib.hid (by unfold tM; rw [if_neg (by rw [V.out]; simp), if_pos (.inr h1)])
    rw [h1]
    clear h0 h1
    go_enter Try.func24, Try.ntmps24
    go_wp2_with fail
    refine (Valid_c _ _).mono ?_; rintro e w1 ⟨rfl, x1⟩; rw [V.out]
    go_wp2_with fail
    go_ret2
    rw [E.out]; exact ⟨_, rfl, Own.nil _ _, x1.box⟩
  have t1 : ((m.length : Int) == 0) = false := beq_eq_false_iff_ne.2 (by omega)
  obtain ⟨L, hL⟩ : ∃ L, L = l.length + m.length - 1 := ⟨_, rfl⟩
  have hL2 : (l.length : Int) + (m.length : Int) - 1 = (L : Int) := by omega
  have hL3 : L ≤ 200 := by omega
  have hL4 : 1 ≤ L := by omega
  have E : Hid (tM p l m = if okT p (fitN L) = true then (tMul p l m, 0) else ([], 3)) := Lib.hid (by unfold tM; rw [if_neg (by rw [V.out]; simp), if_neg (by omega), hL])
  have H01 : Hid (0 < l.length ∧ 0 < m.length ∧ l.length + m.length = L + 1) := Lib.hid ⟨by omega, by omega, by omega⟩
  have hll : l.length ≤ 200 := by omega
  have hml : m.length ≤ 200 := by omega
  have RT := Lib.hid (fun (n : Nat) (w' : World) (h : n ≤ 100000) => root_c p (n : Int) w' (by omega) (by omega))
  have ML : Hid (∀ e, okT p ((2 ^ e : Nat) : Int) = true → L ≤ 2 ^ e → (tinv p e (zipM p (reva p l 1 (rootN p (2 ^ e)) (2 ^ e)) (reva p m 1 (rootN p (2 ^ e)) (2 ^ e))) (rootN p (2 ^ e)) (2 ^ e)).take L = tMul p l m) := Lib.hid (fun e he hle => by
    obtain ⟨_, k, hk, hn, hd, _⟩ := okT_spec he
    have hek : e = k := by
      have : (2 ^ e : Nat) = 2 ^ k := by omega
      have h2 := congrArg Nat.log2 this; rwa [Nat.log2_two_pow, Nat.log2_two_pow] at h2
    subst hek
    rw [hL]; exact Q.mul_values V.out hd l m (by omega) (by omega) (by omega))
  clear hL h0 h1
  go_enter Try.func24, Try.ntmps24
  go_wp2_with fail
  refine (Valid_c _ _).mono ?_; rintro e w1 ⟨rfl, x1⟩; rw [V.out]
  have hc := x1.boxCell
  go_wp2_with fail
  go_loopw [9] (FitRel L w1) (fun i _ => 1000 - (intOf i).toNat)
  case atStart => exact ⟨0, 1, rfl, rfl, .inl rfl, Ext.refl _⟩
  case round =>
    obtain ⟨e, n, rfl, hn, hor, hext⟩ := hrel
    have hn1 : 1 ≤ n := by rw [hn]; exact Nat.two_pow_pos e
    have hn2 : n ≤ 400 := by
      rcases hor with h | h
      · subst h; omega
      · rcases Nat.eq_zero_or_pos e with h3 | h3
        · subst h3; omega
        · have : 2 ^ e = 2 ^ (e - 1) * 2 := by rw [← Nat.pow_succ]; congr 1; omega
          omega
    by_cases hlt : n < L
    · have HN := Lib.hid hn
      have HOR := Lib.hid hor
      have t2 : decide ((n : Int) ≤ 4096) = true := decide_eq_true (by omega)
      clear hn hor
      go_wp2
      go_roundw
      case rel =>
        refine ⟨e + 1, n * 2, by go_num, by rw [Nat.pow_succ, HN.out], .inr ?_, hext⟩
        rw [Nat.add_sub_cancel, ← HN.out]; exact hlt
      case measure => simp [intOf]; omega
    · have hf : fitN L = n := by rw [hn]; exact fitN_eq (by omega) hor
      have t2 : decide ((n : Int) < (L : Int)) = false := decide_eq_false (by omega)
      have HN := Lib.hid hn
      rw [hf] at E
      have hc2 := hext.cell hc
      have X0 := x1.box.trans hext
      by_cases ho : okT p n = true
      case neg =>
        have O : Hid (rootB (if (n : Int) ≤ 4096 then p else 0) n = false) := Lib.hid (by simpa [okT] using ho)
        have E2 : Hid (tM p l m = ([], 3)) := Lib.hid (by rw [E.out, if_neg ho])
        clear ho hn hor hf E ML
        go_wp2_with fail
        refine (RT.out _ _ (by omega)).mono ?_; rintro e w2 ⟨rfl, x2⟩; rw [rootV_no O.out, O.out]
        go_wp2_with fail
        go_ret2
        rw [E2.out]; exact ⟨_, rfl, Own.nil _ _, X0.trans x2⟩
      have O : Hid (rootB (if (n : Int) ≤ 4096 then p else 0) n = true) := Lib.hid ho
      have E2 : Hid (tM p l m = (tMul p l m, 0)) := Lib.hid (by rw [E.out, if_pos ho])
      have hv : ¬ vld p = false := by rw [V.out]; simp
      have htE : ∀ x : List Nat, x.length ≤ 200 → tE p x 1 n = (reva p x 1 (rootN p n) n, 0) := fun x hx => by
        rw [Q.tE_same]; unfold rE
        rw [if_neg hv, if_pos ⟨ho, by rw [one_mod V.out]; omega⟩, if_pos (by omega), one_mod V.out, Int.toNat_natCast]
      have EA := fun w' (h : Rd w' a l) => Evaluate_c p l 1 n a c w' h (by omega) (by omega) (by omega)
      have EB := fun w' (h : Rd w' b m) => Evaluate_c p m 1 n b d w' h (by omega) (by omega) (by omega)
      rw [htE l hll] at EA
      rw [htE m hml] at EB
      have MLe := ML.out e (by rw [← hn]; exact ho) (by rw [← hn]; omega)
      rw [← hn] at MLe
      obtain ⟨X, hX⟩ : ∃ X, X = reva p l 1 (rootN p n) n := ⟨_, rfl⟩
      obtain ⟨Y, hY⟩ : ∃ Y, Y = reva p m 1 (rootN p n) n := ⟨_, rfl⟩
      have lX : X.length = n := by rw [hX]; exact tab_len _ _
      have lY : Y.length = n := by rw [hY]; exact tab_len _ _
      rw [← hX] at EA MLe
      rw [← hY] at EB MLe
      obtain ⟨Z, hZ⟩ : ∃ Z, Z = zipM p X Y := ⟨_, rfl⟩
      have lZ : Z.length = n := by rw [hZ]; unfold zipM; rw [tab_len, lX]
      have hZt : Hid (tab n (fun t => fmul p (X.getD t 0) (Y.getD t 0)) = Z) := Lib.hid (by rw [hZ, ← lX]; rfl)
      rw [← hZ] at MLe
      have htI : tI p Z = (tinv p e Z (rootN p n) n, 0) := by
        unfold tI; rw [if_neg hv, lZ, if_pos ho, log2_pow hn]
      have IZ := fun w' a' c' (h : Rd w' a' Z) => Inverse_c p Z a' c' w' h (by omega)
      rw [htI, lZ] at IZ
      obtain ⟨R, hR⟩ : ∃ R, R = tinv p e Z (rootN p n) n := ⟨_, rfl⟩
      obtain ⟨_, k0, hk0, hn0, hd0, _⟩ := okT_spec ho
      have hek : e = k0 := by
        have : (2 ^ e : Nat) = 2 ^ k0 := by omega
        have h2 := congrArg Nat.log2 this; rwa [Nat.log2_two_pow, Nat.log2_two_pow] at h2
      have lR : R.length = n := by rw [hR, hn]; rw [← hek] at hd0; exact Q.tinv_len V.out hd0 Z (by rw [lZ, hn]) _ _
      rw [← hR] at IZ MLe
      have HEA : Hid (∀ w', Rd w' a l → Calls Try.prog 21 #[.agg #[.int .u64 p], .slice a l.length c, .int .u64 1, .int .i64 n] w' (IPost w' X 0)) := Lib.hid EA
      have HEB : Hid (∀ w', Rd w' b m → Calls Try.prog 21 #[.agg #[.int .u64 p], .slice b m.length d, .int .u64 1, .int .i64 n] w' (IPost w' Y 0)) := Lib.hid EB
      have HIZ : Hid (∀ w' a' c', Rd w' a' Z → Calls Try.prog 15 #[.agg #[.int .u64 p], .slice a' n c'] w' (IPost w' R 0)) := Lib.hid IZ
      have HL := Lib.hid (And.intro lX (And.intro lY (And.intro lZ lR)))
      have HM := Lib.hid MLe
      have RV := Lib.hid (show rootV (if (n : Int) ≤ 4096 then p else 0) n = rootV p n by rw [if_pos (by omega)])
      have hLn : L ≤ n := by omega
      clear ho hn hor hf E ML hv htE EA EB hX hY hZ htI IZ hR hk0 hn0 hd0 hek lX lY lZ lR MLe
      go_wp2_with fail
      refine (RT.out _ _ (by omega)).mono ?_; rintro e w2 ⟨rfl, x2⟩; rw [O.out, RV.out]
      replace hc2 := x2.cell hc2
      replace X0 := X0.trans x2
      go_wp2_with fail
      refine (HEA.out _ (HA.out.ext X0)).mono ?_; rintro e w3 ⟨vx, rfl, o3, x3⟩
      obtain ⟨gx, cx, hvx, hgx, hcx, ax⟩ := o3.arr (by rw [HL.out.1]; exact hn1)
      rw [HL.out.1] at hvx hcx
      subst hvx
      have hgx2 : gx < w3.heap.size := ax.lt
      have HAX := Lib.hid ax
      replace hc2 := x3.cell hc2
      have hgw : w.heap.size + 1 ≤ gx := by have h1 := Nat.le_trans ((x1.trans hext).trans x2).size hgx; simp at h1; exact h1
      replace X0 := X0.trans x3
      clear o3 ax
      go_wp2_with fail
      refine (HEB.out _ (HB.out.ext X0)).mono ?_; rintro e w4 ⟨vy, rfl, o4, x4⟩
      obtain ⟨gy, cy, hvy, hgy, hcy, ay⟩ := o4.arr (by rw [HL.out.2.1]; exact hn1)
      rw [HL.out.2.1] at hvy hcy
      subst hvy
      have HAY := Lib.hid ay
      replace hc2 := x4.cell hc2
      replace X0 := X0.trans x4
      have hxy : gy ≠ gx := by omega
      have hbx : w.heap.size ≠ gx := by omega
      clear o4 ay
      go_wp2_with fail
      go_loopw [73] (ZRel p X Y gx cx w4) (fun i _ => n - (intOf i).toNat)
      case atStart => exact ⟨0, rfl, Nat.zero_le _, by rw [done_zero]; exact HAX.out.ext x4, But.refl _ _⟩
      case round =>
        obtain ⟨j, rfl, hj, ag, bt⟩ := hrel
        rw [HL.out.1] at hj
        have hc3 := bt.cell hc2 hbx
        by_cases hlt2 : j < n
        · have c1 := ag.at (i := j) (by rw [tab_len, HL.out.1]; exact hlt2)
          rw [tab_get _ _ _ (by rw [HL.out.1]; exact hlt2), if_neg (by omega)] at c1
          have c2 := (bt.arr HAY.out hxy).at (i := j) (by rw [HL.out.2.1]; exact hlt2)
          have hst := done_step X (fun t => fmul p (X.getD t 0) (Y.getD t 0)) j
          obtain ⟨x, hx0⟩ : ∃ x, x = X.getD j 0 := ⟨_, rfl⟩
          obtain ⟨y, hy0⟩ : ∃ y, y = Y.getD j 0 := ⟨_, rfl⟩
          obtain ⟨T, hT⟩ : ∃ T, T = tab X.length (fun t => if t < j then fmul p (X.getD t 0) (Y.getD t 0) else X.getD t 0) := ⟨_, rfl⟩
          have hTl : T.length = X.length := by rw [hT]; exact tab_len _ _
          rw [← hT] at ag hst
          rw [← hx0] at c1 hst
          rw [← hy0] at c2 hst
          have HAG := Lib.hid ag
          have HST := Lib.hid hst
          have HTL := Lib.hid hTl
          have HBT := Lib.hid bt
          clear ag hst hTl hT hx0 hy0 bt
          go_wp2_with fail
          refine region_facts [[], [], [], [], [], [(3, 79), (4, 80)], [(5, 81)], [], [], [(7, 83), (8, 84)], [(9, 85)], [(2, 78), (6, 82), (10, 86)]] [some 76, some 77, some 78, some 79, some 80, some 81, some 82, some 83, some 84, some 85, some 86, some 87] (by kernel_rfl) (by kernel_rfl) ?_
          with_reducible apply From.eq
          · intro w' hx; have hc3x := hx.cell hc3; have c1x := hx.cell c1; have c2x := hx.cell c2; (try dsimp only [List.nil_append, List.cons_append]); dsimp only [DepsV, fat, eqF]; go_wp2; exact OpPost.some _ rfl rfl (Ext.refl _) rfl
          with_reducible apply From.eq
          · intro w' hx; have hc3x := hx.cell hc3; have c1x := hx.cell c1; have c2x := hx.cell c2; (try dsimp only [List.nil_append, List.cons_append]); dsimp only [DepsV, fat, eqF]; go_wp2; exact OpPost.some _ rfl rfl (Ext.refl _) rfl
          with_reducible apply From.eq
          · intro w' hx; have hc3x := hx.cell hc3; have c1x := hx.cell c1; have c2x := hx.cell c2; (try dsimp only [List.nil_append, List.cons_append]); dsimp only [DepsV, fat, eqF]; go_wp2; exact OpPost.some _ rfl rfl (Ext.refl _) rfl
          with_reducible apply From.eq
          · intro w' hx; have hc3x := hx.cell hc3; have c1x := hx.cell c1; have c2x := hx.cell c2; (try dsimp only [List.nil_append, List.cons_append]); dsimp only [DepsV, fat, eqF]; go_wp2; exact OpPost.some _ rfl rfl (Ext.refl _) rfl
          with_reducible apply From.eq
          · intro w' hx; have hc3x := hx.cell hc3; have c1x := hx.cell c1; have c2x := hx.cell c2; (try dsimp only [List.nil_append, List.cons_append]); dsimp only [DepsV, fat, eqF]; go_wp2; exact OpPost.some _ rfl rfl (Ext.refl _) rfl
          with_reducible apply From.eq
          · intro w' hx; have hc3x := hx.cell hc3; have c1x := hx.cell c1; have c2x := hx.cell c2; (try dsimp only [List.nil_append, List.cons_append]); dsimp only [DepsV, fat, eqF]; rintro _ rfl _ rfl; go_wp2; exact OpPost.some _ rfl rfl (Ext.refl _) rfl
          with_reducible apply From.eq
          · intro w' hx; have hc3x := hx.cell hc3; have c1x := hx.cell c1; have c2x := hx.cell c2; (try dsimp only [List.nil_append, List.cons_append]); dsimp only [DepsV, fat, eqF]; rintro _ rfl; go_wp2; exact OpPost.some _ rfl rfl (Ext.refl _) rfl
          with_reducible apply From.eq
          · intro w' hx; have hc3x := hx.cell hc3; have c1x := hx.cell c1; have c2x := hx.cell c2; (try dsimp only [List.nil_append, List.cons_append]); dsimp only [DepsV, fat, eqF]; go_wp2; exact OpPost.some _ rfl rfl (Ext.refl _) rfl
          with_reducible apply From.eq
          · intro w' hx; have hc3x := hx.cell hc3; have c1x := hx.cell c1; have c2x := hx.cell c2; (try dsimp only [List.nil_append, List.cons_append]); dsimp only [DepsV, fat, eqF]; go_wp2; exact OpPost.some _ rfl rfl (Ext.refl _) rfl
          with_reducible apply From.eq
          · intro w' hx; have hc3x := hx.cell hc3; have c1x := hx.cell c1; have c2x := hx.cell c2; (try dsimp only [List.nil_append, List.cons_append]); dsimp only [DepsV, fat, eqF]; rintro _ rfl _ rfl; go_wp2; exact OpPost.some _ rfl rfl (Ext.refl _) rfl
          with_reducible apply From.eq
          · intro w' hx; have hc3x := hx.cell hc3; have c1x := hx.cell c1; have c2x := hx.cell c2; (try dsimp only [List.nil_append, List.cons_append]); dsimp only [DepsV, fat, eqF]; rintro _ rfl; go_wp2; exact OpPost.some _ rfl rfl (Ext.refl _) rfl
          with_reducible apply From.eq
          · intro w' hx; have hc3x := hx.cell hc3; have c1x := hx.cell c1; have c2x := hx.cell c2; (try dsimp only [List.nil_append, List.cons_append]); dsimp only [DepsV, fat, eqF]; rintro _ rfl _ rfl _ rfl; go_wp2_with (go_at_call 44; refine (Mul_c _ _ _ _).mono ?_; rintro e w2 ⟨rfl, hb2⟩); exact OpPost.some _ rfl rfl hb2 rfl
          with_reducible refine From.fin ?_
          intro w' hx
          (try dsimp only [List.nil_append, List.cons_append]); dsimp only [EndV, eqF]; rintro _ rfl _ rfl _ rfl _ rfl _ rfl _ rfl _ rfl _ rfl _ rfl _ rfl _ rfl _ rfl; simp only [Act.put, List.setIfInBounds_toArray, List.set_cons_zero, List.set_cons_succ]
          have A6 := HAG.out.ext hx
          have f6 := A6.frozen j
          have d6 := A6.at (i := j) (by rw [HTL.out, HL.out.1]; exact hlt2)
          have HA6 := Lib.hid A6
          clear A6
          go_wp2
          go_roundw
          case rel =>
            refine ⟨j + 1, by go_num, by rw [HL.out.1]; omega, ?_, (HBT.out.trans (hx.but _)).trans (But.set _ _ _ _)⟩
            rw [← HST.out]; exact HA6.out.set j _ (by rw [HTL.out, HL.out.1]; exact hlt2)
          case measure => simp [intOf]; omega
        · obtain rfl : j = n := by omega
          rw [done_all X _ _ HL.out.1, hZt.out] at ag
          have HRZ := Lib.hid ag.rd
          have X5 := bt.ext X0 (by omega)
          clear ag bt
          go_wp2_with fail
          refine (HIZ.out _ _ _ HRZ.out).mono ?_; rintro e w6 ⟨vr, rfl, o6, x6⟩
          obtain ⟨gr, cr, hvr, hgr, hcr, ar⟩ := o6.arr (by rw [HL.out.2.2.2]; exact hn1)
          have HO : Hid (Own w6 w.heap.size (.slice (some ⟨gr, 0, none⟩) L cr) (tMul p l m)) := Lib.hid (by
            rw [hvr] at o6
            have := (o6.base X5.size).pre L (by rw [HL.out.2.2.2]; exact hLn)
            rw [HM.out] at this
            exact this)
          rw [HL.out.2.2.2] at hvr hcr
          subst hvr
          clear o6 ar
          go_wp2_with fail
          go_ret2
          rw [E2.out]; exact ⟨_, rfl, HO.out, X5.trans x6⟩
end Go.Proofs.Ytcnbinjoeilfgaa
