/- Contracts of package transform. -/
import Derived.Test.YtcnbinjoeilfgaaTr3
import Derived.Test.YtcnbinjoeilfgaaGN
namespace Go.Proofs.Ytcnbinjoeilfgaa
open Go.RowKit

theorem log2_pow {n k : Nat} (h : n = 2 ^ k) : Nat.log2 n = k := by rw [h, Nat.log2_two_pow]
theorem pow_le12 {k : Nat} (h : k ≤ 12) : 2 ^ k ≤ 4096 := Nat.pow_le_pow_right (by omega) h

set_option maxRecDepth 100000 in
set_option maxHeartbeats 2000000 in
theorem Forward_c (p : Nat) (l : List Nat) (a : Option Addr) (c : Nat) (w : World) (ha : Rd w a l) (hl : l.length ≤ 1000000) :
    Calls Try.prog 13 #[.agg #[.int .u64 p], .slice a l.length c] w (IPost w (tF p l).1 (tF p l).2) := by
  have HA := Lib.hid ha
  clear ha
  cases hv : vld p
  · have V := Lib.hid hv
    have E : Hid (tF p l = ([], 7)) := Lib.hid (by unfold tF; rw [if_pos hv])
    clear hv
    go_enter Try.func13, Try.ntmps13
    go_wp2_with fail
    refine (Valid_c _ _).mono ?_; rintro e w1 ⟨rfl, x1⟩; rw [V.out]
    go_wp2_with fail
    go_ret2
    rw [E.out]; exact ⟨_, rfl, Own.nil _ _, x1.box⟩
  have V := Lib.hid hv
  clear hv
  have RC := Lib.hid (fun w' => root_c p l.length w' (by omega) (by omega))
  by_cases ho : okT p l.length = true
  case neg =>
    have E : Hid (tF p l = ([], 1)) := Lib.hid (by unfold tF; rw [if_neg (by rw [V.out]; simp), if_neg ho])
    have O : Hid (rootB (if (l.length : Int) ≤ 4096 then p else 0) l.length = false) := Lib.hid (by simpa [okT] using ho)
    clear ho
    go_enter Try.func13, Try.ntmps13
    go_wp2_with fail
    refine (Valid_c _ _).mono ?_; rintro e w1 ⟨rfl, x1⟩; rw [V.out]
    have hc := x1.boxCell
    go_wp2_with fail
    refine (RC.out _).mono ?_; rintro e w2 ⟨rfl, x2⟩; rw [rootV_no O.out, O.out]
    go_wp2_with fail
    go_ret2
    rw [E.out]; exact ⟨_, rfl, Own.nil _ _, x1.box.trans x2⟩
  have O : Hid (rootB (if (l.length : Int) ≤ 4096 then p else 0) l.length = true) := Lib.hid ho
  obtain ⟨_, k, hk, hn, hd, hr⟩ := okT_spec ho
  have hn' : l.length = 2 ^ k := by omega
  have hp := pow_le12 hk
  have hp1 := Nat.two_pow_pos k
  have E : Hid (tF p l = (tfor p k l (rootN p (2 ^ k)), 0)) := Lib.hid (by unfold tF; rw [if_neg (by rw [V.out]; simp), if_pos ho, log2_pow hn', hn'])
  have R := Lib.hid hr
  have HN := Lib.hid hn'
  have VC := Lib.hid (fun g c w' (h : Arr w' g (l.map (fred p)) c) => values_c p k (l.map (fred p)) g c (rootN p (2 ^ k)) w' (by rw [List.length_map]; exact HN.out) hk h)
  rw [List.length_map] at VC
  obtain ⟨r, hr0⟩ : ∃ r, r = rootN p (2 ^ k) := ⟨_, rfl⟩
  rw [← hr0] at E R VC
  have hl1 : 1 ≤ l.length := by omega
  have LM : Hid ((l.map (fred p)).length = l.length) := Lib.hid (by simp)
  have LF : Hid ((tfor p k l r).length = l.length) := Lib.hid (by unfold tfor; rw [fft_len _ _ _ _ (by rw [List.length_map]; exact HN.out)]; exact HN.out.symm)
  clear ho hn hd hr hn' hr0 hp hp1
  go_enter Try.func13, Try.ntmps13
  go_wp2_with fail
  refine (Valid_c _ _).mono ?_; rintro e w1 ⟨rfl, x1⟩; rw [V.out]
  have hc := x1.boxCell
  go_wp2_with fail
  refine (RC.out _).mono ?_; rintro e w2 ⟨rfl, x2⟩; rw [O.out, R.out]
  replace hc := x2.cell hc
  go_wp2_with fail
  refine (treduced_c p l a c _ (HA.out.ext (x1.box.trans x2)) hl).mono ?_; rintro e w3 ⟨v, rfl, o3, x3⟩
  obtain ⟨g, c3, rfl, hg, hc3, a3⟩ := o3.arr (by rw [LM.out]; exact hl1)
  rw [LM.out]
  replace hc := x3.cell hc
  have HA3 := Lib.hid a3
  clear o3 a3
  go_wp2_with fail
  refine (VC.out _ _ _ HA3.out).mono ?_; rintro e w4 ⟨v4, rfl, a4, b4⟩
  have X3 := (x1.box.trans x2).trans x3
  have hgw : w.heap.size ≤ g := Nat.le_trans (x1.box.trans x2).size hg
  have HO : Hid (Own w4 w.heap.size (.slice (some ⟨g, 0, none⟩) l.length c3) (tfor p k l r)) := Lib.hid (by
    have := a4.own hgw
    rw [show (fft p k (l.map (fred p)) r).length = l.length from LF.out] at this
    exact this)
  clear a4
  go_wp2_with fail
  go_ret2
  rw [E.out]; exact ⟨_, rfl, HO.out, b4.ext X3 hgw⟩

def MulRelT (_p : Nat) (L : List Nat) (f : Nat → Nat) (g c : Nat) (w1 : World) (s : Value) (wr : World) : Prop :=
  ∃ k : Nat, s = .int .i64 k ∧ k ≤ L.length ∧ Arr wr g (tab L.length (fun t => if t < k then f t else L.getD t 0)) c ∧ But g w1 wr

set_option maxRecDepth 100000 in
set_option maxHeartbeats 2000000 in
theorem Inverse_c (p : Nat) (l : List Nat) (a : Option Addr) (c : Nat) (w : World) (ha : Rd w a l) (hl : l.length ≤ 1000000) :
    Calls Try.prog 15 #[.agg #[.int .u64 p], .slice a l.length c] w (IPost w (tI p l).1 (tI p l).2) := by
  have HA := Lib.hid ha
  clear ha
  cases hv : vld p
  · have V := Lib.hid hv
    have E : Hid (tI p l = ([], 7)) := Lib.hid (by unfold tI; rw [if_pos hv])
    clear hv
    go_enter Try.func15, Try.ntmps15
    go_wp2_with fail
    refine (Valid_c _ _).mono ?_; rintro e w1 ⟨rfl, x1⟩; rw [V.out]
    go_wp2_with fail
    go_ret2
    rw [E.out]; exact ⟨_, rfl, Own.nil _ _, x1.box⟩
  have V := Lib.hid hv
  clear hv
  have RC := Lib.hid (fun w' => root_c p l.length w' (by omega) (by omega))
  by_cases ho : okT p l.length = true
  case neg =>
    have E : Hid (tI p l = ([], 1)) := Lib.hid (by unfold tI; rw [if_neg (by rw [V.out]; simp), if_neg ho])
    have O : Hid (rootB (if (l.length : Int) ≤ 4096 then p else 0) l.length = false) := Lib.hid (by simpa [okT] using ho)
    clear ho
    go_enter Try.func15, Try.ntmps15
    go_wp2_with fail
    refine (Valid_c _ _).mono ?_; rintro e w1 ⟨rfl, x1⟩; rw [V.out]
    have hc := x1.boxCell
    go_wp2_with fail
    refine (RC.out _).mono ?_; rintro e w2 ⟨rfl, x2⟩; rw [rootV_no O.out, O.out]
    go_wp2_with fail
    go_ret2
    rw [E.out]; exact ⟨_, rfl, Own.nil _ _, x1.box.trans x2⟩
  have O : Hid (rootB (if (l.length : Int) ≤ 4096 then p else 0) l.length = true) := Lib.hid ho
  obtain ⟨_, k, hk, hn, hd, hr⟩ := okT_spec ho
  have hn' : l.length = 2 ^ k := by omega
  have hp := pow_le12 hk
  have hp1 := Nat.two_pow_pos k
  have E : Hid (tI p l = (tinv p k l (rootN p (2 ^ k)) l.length, 0)) := Lib.hid (by unfold tI; rw [if_neg (by rw [V.out]; simp), if_pos ho, log2_pow hn', hn'])
  have R := Lib.hid hr
  have HN := Lib.hid hn'
  have VC := Lib.hid (fun g c w' (h : Arr w' g (l.map (fred p)) c) => values_c p k (l.map (fred p)) g c (finv p (rootN p (2 ^ k))) w' (by rw [List.length_map]; exact HN.out) hk h)
  rw [List.length_map] at VC
  obtain ⟨r, hr0⟩ : ∃ r, r = rootN p (2 ^ k) := ⟨_, rfl⟩
  rw [← hr0] at E R VC
  have hl1 : 1 ≤ l.length := by omega
  have LM : Hid ((l.map (fred p)).length = l.length) := Lib.hid (by simp)
  obtain ⟨L, hL⟩ : ∃ L, L = fft p k (l.map (fred p)) (finv p r) := ⟨_, rfl⟩
  have E2 : Hid (tinv p k l r l.length = L.map (fun x => fmul p x (finv p l.length))) := Lib.hid (by rw [hL]; rfl)
  have LF : Hid (L.length = l.length) := Lib.hid (by rw [hL, fft_len _ _ _ _ (by rw [List.length_map]; exact HN.out)]; exact HN.out.symm)
  rw [← hL] at VC
  clear ho hn hd hr hn' hr0 hp hp1 hL
  go_enter Try.func15, Try.ntmps15
  go_wp2_with fail
  refine (Valid_c _ _).mono ?_; rintro e w1 ⟨rfl, x1⟩; rw [V.out]
  have hc := x1.boxCell
  go_wp2_with fail
  refine (RC.out _).mono ?_; rintro e w2 ⟨rfl, x2⟩; rw [O.out, R.out]
  replace hc := x2.cell hc
  go_wp2_with fail
  refine (treduced_c p l a c _ (HA.out.ext (x1.box.trans x2)) hl).mono ?_; rintro e w3 ⟨v, rfl, o3, x3⟩
  obtain ⟨g, c3, rfl, hg, hc3, a3⟩ := o3.arr (by rw [LM.out]; exact hl1)
  rw [LM.out]
  rw [LM.out] at hc3
  replace hc := x3.cell hc
  have HA3 := Lib.hid a3
  have X3 := (x1.box.trans x2).trans x3
  have hgw : w.heap.size ≤ g := Nat.le_trans (x1.box.trans x2).size hg
  have hgb : w.heap.size ≠ g := by have h1 := Nat.le_trans (x1.trans x2).size hg; simp at h1; omega
  clear o3 a3
  go_wp2_with fail
  refine region_facts [[], [], [], [], [(2, 29), (3, 30)]] [some 27, some 28, some 29, some 30, some 31] (by kernel_rfl) (by kernel_rfl) ?_
  with_reducible apply From.eq
  · intro w' hx; have hcx := hx.cell hc; (try dsimp only [List.nil_append, List.cons_append]); dsimp only [DepsV, fat, eqF]; go_wp2; exact OpPost.some _ rfl rfl (Ext.refl _) rfl
  with_reducible apply From.eq
  · intro w' hx; have hcx := hx.cell hc; (try dsimp only [List.nil_append, List.cons_append]); dsimp only [DepsV, fat, eqF]; go_wp2; exact OpPost.some _ rfl rfl (Ext.refl _) rfl
  with_reducible apply From.eq
  · intro w' hx; have hcx := hx.cell hc; (try dsimp only [List.nil_append, List.cons_append]); dsimp only [DepsV, fat, eqF]; go_wp2; exact OpPost.some _ rfl rfl (Ext.refl _) rfl
  with_reducible apply From.eq
  · intro w' hx; have hcx := hx.cell hc; (try dsimp only [List.nil_append, List.cons_append]); dsimp only [DepsV, fat, eqF]; go_wp2; exact OpPost.some _ rfl rfl (Ext.refl _) rfl
  with_reducible apply From.eq
  · intro w' hx; have hcx := hx.cell hc; (try dsimp only [List.nil_append, List.cons_append]); dsimp only [DepsV, fat, eqF]; rintro _ rfl _ rfl; go_wp2_with (go_at_call 43; refine (Inv_c _ _ _).mono ?_; rintro e w2 ⟨rfl, hb2⟩); exact OpPost.some _ rfl rfl hb2 rfl
  with_reducible refine From.fin ?_
  intro w' hx
  (try dsimp only [List.nil_append, List.cons_append]); dsimp only [EndV, eqF]; rintro _ rfl _ rfl _ rfl _ rfl _ rfl; simp only [Act.put, List.setIfInBounds_toArray, List.set_cons_zero, List.set_cons_succ]
  obtain ⟨wa, rfl⟩ : ∃ wa : World, wa = w' := ⟨_, rfl⟩
  have xa := hx
  clear hx
  go_wp2_with fail
  refine (VC.out _ _ _ (HA3.out.ext xa)).mono ?_; rintro e w4 ⟨v4, rfl, a4, b4⟩
  have X4 := b4.ext (X3.trans xa) hgw
  have HA4 := Lib.hid a4
  have hc4 := b4.cell (xa.cell hc) hgb
  clear a4
  go_wp2_with fail
  refine (Inv_c _ _ _).mono ?_; rintro e w5 ⟨rfl, x5⟩
  replace hc4 := x5.cell hc4
  obtain ⟨iv, hiv⟩ : ∃ iv, iv = finv p l.length := ⟨_, rfl⟩
  rw [← hiv] at E2
  rw [← hiv]
  clear hiv
  go_wp2_with fail
  go_loopw [40] (MulRelT p L (fun t => fmul p (L.getD t 0) iv) g c3 w5) (fun i _ => l.length - (intOf i).toNat)
  case atStart =>
    refine ⟨0, rfl, Nat.zero_le _, ?_, But.refl _ _⟩
    have : tab L.length (fun t => if t < 0 then fmul p (L.getD t 0) iv else L.getD t 0) = L := by
      conv => rhs; rw [list_tab L]
      exact tab_congr fun t _ => by rw [if_neg (by omega)]
    rw [this]; exact HA4.out.ext x5
  case round =>
    obtain ⟨j, rfl, hj, ag, bt⟩ := hrel
    have hc6 := bt.cell hc4 hgb
    rw [LF.out] at hj
    by_cases hlt : j < l.length
    · have c1 := ag.at (i := j) (by rw [tab_len, LF.out]; exact hlt)
      rw [tab_get _ _ _ (by rw [LF.out]; exact hlt), if_neg (by omega)] at c1
      have hst : (tab L.length (fun t => if t < j then fmul p (L.getD t 0) iv else L.getD t 0)).set j (fmul p (L.getD j 0) iv) = tab L.length (fun t => if t < j + 1 then fmul p (L.getD t 0) iv else L.getD t 0) := by
        refine tab_upd fun t _ => ?_
        by_cases h : t = j
        · subst h; rw [if_pos (by omega), if_pos rfl]
        · rw [if_neg h]
          by_cases h2 : t < j
          · rw [if_pos h2, if_pos (by omega)]
          · rw [if_neg h2, if_neg (by omega)]
      obtain ⟨x, hx0⟩ : ∃ x, x = L.getD j 0 := ⟨_, rfl⟩
      obtain ⟨T, hT⟩ : ∃ T, T = tab L.length (fun t => if t < j then fmul p (L.getD t 0) iv else L.getD t 0) := ⟨_, rfl⟩
      have hTl : T.length = L.length := by rw [hT]; exact tab_len _ _
      rw [← hT] at ag hst
      rw [← hx0] at c1 hst
      have HAG := Lib.hid ag
      have HST := Lib.hid hst
      have HTL := Lib.hid hTl
      have HBT := Lib.hid bt
      clear ag hst hTl bt hT hx0
      go_wp2_with fail
      refine (Mul_c _ _ _ _).mono ?_; rintro e w6 ⟨rfl, x6⟩
      have A6 := HAG.out.ext x6
      have f6 := A6.frozen j
      have d6 := A6.at (i := j) (by rw [HTL.out, LF.out]; exact hlt)
      have HA6 := Lib.hid A6
      clear A6
      go_wp2
      go_roundw
      case rel =>
        refine ⟨j + 1, by go_num, by rw [LF.out]; omega, ?_, (HBT.out.trans (x6.but g)).trans (But.set _ _ _ _)⟩
        rw [← HST.out]; exact HA6.out.set j _ (by rw [HTL.out, LF.out]; exact hlt)
      case measure => simp [intOf]; omega
    · obtain rfl : j = l.length := by omega
      have HBT := Lib.hid bt
      have HO : Hid (Own wr w.heap.size (.slice (some ⟨g, 0, none⟩) l.length c3) (tinv p k l r l.length)) := Lib.hid (by
        rw [E2.out]
        have h1 : tab L.length (fun t => if t < l.length then fmul p (L.getD t 0) iv else L.getD t 0) = L.map (fun x => fmul p x iv) := by
          rw [← range_map_getD]
          exact tab_congr fun t ht => by rw [if_pos (by rw [← LF.out]; exact ht)]
        rw [h1] at ag
        have := ag.own hgw
        rw [List.length_map, LF.out] at this
        exact this)
      clear ag bt
      go_wp2
      go_ret2
      rw [E.out]; exact ⟨_, rfl, HO.out, HBT.out.ext (X4.trans x5) hgw⟩
end Go.Proofs.Ytcnbinjoeilfgaa
