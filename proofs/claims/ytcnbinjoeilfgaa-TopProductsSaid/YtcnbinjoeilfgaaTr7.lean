/- Contracts of moidoreref04, second part. -/
import Derived.Test.YtcnbinjoeilfgaaTr6
namespace Go.Proofs.Ytcnbinjoeilfgaa
open Go.RowKit

def HRel (p x : Nat) (l : List Nat) (w : World) (o i : Value) (wr : World) : Prop :=
  ∃ k : Nat, i = .int .i64 ((k : Int) - 1) ∧ k ≤ l.length ∧ o = .int .u64 (horner p x (l.drop k)) ∧ Ext w wr

set_option maxRecDepth 100000 in
set_option maxHeartbeats 1000000 in
theorem REval4_c (p : Nat) (l : List Nat) (x : Nat) (a : Option Addr) (c : Nat) (w : World) (ha : Rd w a l) (hl : l.length ≤ 1000000) :
    Calls Try.prog 34 #[.int .u64 p, .slice a l.length c, .int .u64 x] w fun e w' => e = .returned (.int .u64 (horner p x l)) ∧ Ext w w' := by
  have HA := Lib.hid ha
  clear ha
  go_enter Try.func34, Try.ntmps34
  go_wp2
  go_loopw [7, 8] (HRel p x l w) (fun _ i _ => (intOf i + 1).toNat)
  case atStart => exact ⟨l.length, rfl, Nat.le_refl _, by rw [List.drop_length]; rfl, Ext.refl _⟩
  case round =>
    obtain ⟨k, rfl, hk, rfl, hext⟩ := hrel
    by_cases h0 : k = 0
    · subst h0
      have t1 : decide ((0 : Int) ≤ ((0 : Nat) : Int) - 1) = false := by decide
      go_wp2
      go_ret
      exact ⟨by rw [List.drop_zero]; rfl, hext⟩
    · obtain ⟨j, rfl⟩ : ∃ j, k = j + 1 := ⟨k - 1, by omega⟩
      have hj : ((j + 1 : Nat) : Int) - 1 = (j : Int) := by omega
      rw [hj]
      obtain ⟨b, off, rfl, hcell⟩ := HA.out.at (by omega)
      have c1 := hext.cell (hcell j (by omega))
      have E : Hid (horner p x (l.drop j) = fadd p (fmul p (horner p x (l.drop (j + 1))) x) (l.getD j 0)) := Lib.hid (by rw [drop_cons l j (by omega)]; rfl)
      obtain ⟨y, hy0⟩ : ∃ y, y = l.getD j 0 := ⟨_, rfl⟩
      obtain ⟨o, ho0⟩ : ∃ o, o = horner p x (l.drop (j + 1)) := ⟨_, rfl⟩
      rw [← hy0] at c1 E
      rw [← ho0] at E
      rw [← ho0]
      have t1 : decide ((0 : Int) ≤ (j : Int)) = true := decide_eq_true (by omega)
      clear hcell hy0 ho0 hj h0
      go_wp2
      refine region_facts [[], [], [], [], [(1, 17), (2, 18), (3, 19)], [], [], [(5, 21), (6, 22)], [(7, 23)], [(0, 16), (4, 20), (8, 24)], [(9, 25)]] [some 16, some 17, some 18, some 19, some 20, some 21, some 22, some 23, some 24, some 25, some 7] (by kernel_rfl) (by kernel_rfl) ?_
      with_reducible apply From.eq
      · intro w' hx; have c1x := hx.cell c1; (try dsimp only [List.nil_append, List.cons_append]); dsimp only [DepsV, fat, eqF]; go_wp2; exact OpPost.some _ rfl rfl (Ext.refl _) rfl
      with_reducible apply From.eq
      · intro w' hx; have c1x := hx.cell c1; (try dsimp only [List.nil_append, List.cons_append]); dsimp only [DepsV, fat, eqF]; go_wp2; exact OpPost.some _ rfl rfl (Ext.refl _) rfl
      with_reducible apply From.eq
      · intro w' hx; have c1x := hx.cell c1; (try dsimp only [List.nil_append, List.cons_append]); dsimp only [DepsV, fat, eqF]; go_wp2; exact OpPost.some _ rfl rfl (Ext.refl _) rfl
      with_reducible apply From.eq
      · intro w' hx; have c1x := hx.cell c1; (try dsimp only [List.nil_append, List.cons_append]); dsimp only [DepsV, fat, eqF]; go_wp2; exact OpPost.some _ rfl rfl (Ext.refl _) rfl
      with_reducible apply From.eq
      · intro w' hx; have c1x := hx.cell c1; (try dsimp only [List.nil_append, List.cons_append]); dsimp only [DepsV, fat, eqF]; rintro _ rfl _ rfl _ rfl; go_wp2_with (go_at_call 32; refine (RMul_c _ _ _ _).mono ?_; rintro e w2 ⟨rfl, hb2⟩); exact OpPost.some _ rfl rfl hb2 rfl
      with_reducible apply From.eq
      · intro w' hx; have c1x := hx.cell c1; (try dsimp only [List.nil_append, List.cons_append]); dsimp only [DepsV, fat, eqF]; go_wp2; exact OpPost.some _ rfl rfl (Ext.refl _) rfl
      with_reducible apply From.eq
      · intro w' hx; have c1x := hx.cell c1; (try dsimp only [List.nil_append, List.cons_append]); dsimp only [DepsV, fat, eqF]; go_wp2; exact OpPost.some _ rfl rfl (Ext.refl _) rfl
      with_reducible apply From.eq
      · intro w' hx; have c1x := hx.cell c1; (try dsimp only [List.nil_append, List.cons_append]); dsimp only [DepsV, fat, eqF]; rintro _ rfl _ rfl; go_wp2; exact OpPost.some _ rfl rfl (Ext.refl _) rfl
      with_reducible apply From.eq
      · intro w' hx; have c1x := hx.cell c1; (try dsimp only [List.nil_append, List.cons_append]); dsimp only [DepsV, fat, eqF]; rintro _ rfl; go_wp2; exact OpPost.some _ rfl rfl (Ext.refl _) rfl
      with_reducible apply From.eq
      · intro w' hx; have c1x := hx.cell c1; (try dsimp only [List.nil_append, List.cons_append]); dsimp only [DepsV, fat, eqF]; rintro _ rfl _ rfl _ rfl; go_wp2_with (go_at_call 31; refine (RAdd_c _ _ _ _).mono ?_; rintro e w2 ⟨rfl, hb2⟩); exact OpPost.some _ rfl rfl hb2 rfl
      with_reducible apply From.eq
      · intro w' hx; have c1x := hx.cell c1; (try dsimp only [List.nil_append, List.cons_append]); dsimp only [DepsV, fat, eqF]; rintro _ rfl; go_wp2; exact OpPost.some _ rfl rfl (Ext.refl _) rfl
      with_reducible refine From.fin ?_
      intro w' hx
      (try dsimp only [List.nil_append, List.cons_append]); dsimp only [EndV, eqF]; rintro _ rfl _ rfl _ rfl _ rfl _ rfl _ rfl _ rfl _ rfl _ rfl _ rfl _ rfl; simp only [Act.put, List.setIfInBounds_toArray, List.set_cons_zero, List.set_cons_succ]
      go_wp2
      go_roundw
      case rel => exact ⟨j, rfl, by omega, by rw [E.out], hext.trans hx⟩
      case measure => simp [intOf]

def VRelR (p : Nat) (D l : List Nat) (g c : Nat) (w1 : World) (s : Value) (wr : World) : Prop :=
  ∃ k : Nat, s = .int .i64 k ∧ k ≤ D.length ∧ Arr wr g (tab D.length (fun t => if t < k then horner p (D.getD t 0) l else D.getD t 0)) c ∧ Ext w1 wr

set_option maxRecDepth 100000 in
set_option maxHeartbeats 2000000 in
theorem REvaluate_c (p : Nat) (l : List Nat) (s : Nat) (n : Int) (a : Option Addr) (c : Nat) (w : World) (ha : Rd w a l) (hl : l.length ≤ 1000000) (hn : n ≤ 9223372036854775807) (hn2 : -9223372036854775808 ≤ n) :
    Calls Try.prog 14 #[.int .u64 p, .slice a l.length c, .int .u64 s, .int .i64 n] w (IPost w (rE p l s n).1 (rE p l s n).2) := by
  have HA := Lib.hid ha
  clear ha
  have DC := RDomain_c p s n w hn hn2
  by_cases ho : okT p n = true ∧ s % p ≠ 0
  case neg =>
    obtain ⟨e, he, h1, h2⟩ : ∃ e : Int, e ≠ 0 ∧ tD p s n = ([], e) ∧ rE p l s n = ([], e) := by
      by_cases hv : vld p = false
      · exact ⟨7, by decide, by unfold tD; rw [if_pos hv], by unfold rE; rw [if_pos hv]⟩
      · exact ⟨1, by decide, by unfold tD; rw [if_neg hv, if_neg ho], by unfold rE; rw [if_neg hv, if_neg ho]⟩
    rw [h1] at DC
    have HDC := Lib.hid DC
    have E := Lib.hid h2
    have t1 : (e != 0) = true := bne_iff_ne.2 he
    clear DC ho h1 h2 he
    go_enter Try.func14, Try.ntmps14
    go_wp2_with fail
    refine HDC.out.mono ?_; rintro e' w1 ⟨v, rfl, o1, x1⟩
    clear o1
    go_wp2_with fail
    go_ret2
    rw [E.out]; exact ⟨_, rfl, Own.nil _ _, x1⟩
  have hv : ¬ vld p = false := fun h => by have h2 := ho.1; rw [okT_vld h] at h2; cases h2
  have h1 : tD p s n = (rdom p (s % p) (rootN p n.toNat) n.toNat, 0) := by unfold tD; rw [if_neg hv, if_pos ho]
  rw [h1] at DC
  by_cases h8 : l.length ≤ 8192
  case neg =>
    have E : Hid (rE p l s n = ([], 3)) := Lib.hid (by unfold rE; rw [if_neg hv, if_pos ho, if_neg h8])
    have t8 : decide ((8192 : Int) < l.length) = true := decide_eq_true (by omega)
    have HDC := Lib.hid DC
    clear DC ho h1 hv h8
    go_enter Try.func14, Try.ntmps14
    go_wp2_with fail
    refine HDC.out.mono ?_; rintro e' w1 ⟨v, rfl, o1, x1⟩
    obtain ⟨a1, c1, rfl, _, _, _⟩ := o1.form
    clear o1
    go_wp2_with fail
    go_ret2
    rw [E.out]; exact ⟨_, rfl, Own.nil _ _, x1⟩
  have t8 : decide ((8192 : Int) < l.length) = false := decide_eq_false (by omega)
  obtain ⟨_, k, hk, hnk, _, _⟩ := okT_spec ho.1
  have hp := pow_le12 hk
  have hp1 := Nat.two_pow_pos k
  obtain ⟨D, hD⟩ : ∃ D, D = rdom p (s % p) (rootN p n.toNat) n.toNat := ⟨_, rfl⟩
  have hDl : D.length = 2 ^ k := by rw [hD, hnk, Int.toNat_natCast]; exact tab_len _ _
  have E : Hid (rE p l s n = (tab D.length (fun t => horner p (D.getD t 0) l), 0)) := Lib.hid (by
    unfold rE; rw [if_neg hv, if_pos ho, if_pos h8]
    congr 1
    unfold reva
    rw [hDl, hnk, Int.toNat_natCast]
    refine tab_congr fun t ht => ?_
    rw [hD, hnk, Int.toNat_natCast]; unfold rdom; rw [tab_get _ _ _ ht])
  rw [← hD] at DC
  have HDC := Lib.hid DC
  have hD1 : 1 ≤ D.length := by omega
  have hD2 : D.length ≤ 4096 := by omega
  clear DC ho h1 hv h8 hnk hp hp1 hD hDl
  go_enter Try.func14, Try.ntmps14
  go_wp2_with fail
  refine HDC.out.mono ?_; rintro e' w1 ⟨v, rfl, o1, x1⟩
  obtain ⟨g, c1, rfl, hg, hc1, a1⟩ := o1.arr (by omega)
  have HA1 := Lib.hid a1
  clear o1 a1
  go_wp2_with fail
  go_loopw [12] (VRelR p D l g c1 w) (fun i _ => D.length - (intOf i).toNat)
  case atStart => exact ⟨0, rfl, Nat.zero_le _, by rw [done_zero]; exact HA1.out, x1⟩
  case round =>
    obtain ⟨j, rfl, hj, ag, hext⟩ := hrel
    by_cases hlt : j < D.length
    · have cD := ag.at (i := j) (by rw [tab_len]; exact hlt)
      rw [tab_get _ _ _ hlt, if_neg (by omega)] at cD
      have hst := done_step D (fun t => horner p (D.getD t 0) l) j
      obtain ⟨x, hx0⟩ : ∃ x, x = D.getD j 0 := ⟨_, rfl⟩
      obtain ⟨T, hT⟩ : ∃ T, T = tab D.length (fun t => if t < j then horner p (D.getD t 0) l else D.getD t 0) := ⟨_, rfl⟩
      have hTl : T.length = D.length := by rw [hT]; exact tab_len _ _
      rw [← hT] at ag hst
      rw [← hx0] at cD hst
      have HAG := Lib.hid ag
      have HST := Lib.hid hst
      have HTL := Lib.hid hTl
      clear ag hst hTl hT hx0
      go_wp2_with fail
      refine (REval4_c p l x a c _ (HA.out.ext hext) hl).mono ?_; rintro e w6 ⟨rfl, x6⟩
      have A6 := HAG.out.ext x6
      have f6 := A6.frozen j
      have d6 := A6.at (i := j) (by rw [HTL.out]; exact hlt)
      have HA6 := Lib.hid A6
      clear A6
      go_wp2
      go_roundw
      case rel =>
        refine ⟨j + 1, by go_num, by omega, ?_, (hext.trans x6).setNew hg _⟩
        rw [← HST.out]; exact HA6.out.set j _ (by rw [HTL.out]; exact hlt)
      case measure => simp [intOf]; omega
    · obtain rfl : j = D.length := by omega
      have HO : Hid (Own wr w.heap.size (.slice (some ⟨g, 0, none⟩) D.length c1) (tab D.length (fun t => horner p (D.getD t 0) l))) := Lib.hid (by
        rw [done_all D _ _ rfl] at ag
        have := ag.own hg
        rw [tab_len] at this
        exact this)
      clear ag
      go_wp2
      go_ret2
      rw [E.out]; exact ⟨_, rfl, HO.out, hext⟩

def IRel1 (O : List Nat) (N : Nat) (w1 : World) (v i : Value) (wr : World) : Prop :=
  ∃ j : Nat, i = .int .i64 ((N : Int) - 1 - j) ∧ j ≤ N - 1 ∧ Own wr w1.heap.size v (tab (j + 1) (fun t => O.getD (if t = 0 then 0 else N - t) 0)) ∧ Ext w1 wr
def IRel2 (p : Nat) (R : List Nat) (s0 t : Nat) (g c : Nat) (w1 : World) (q s : Value) (wr : World) : Prop :=
  ∃ k : Nat, s = .int .i64 k ∧ k ≤ R.length ∧ q = .int .u64 (dmK p s0 t k) ∧ Arr wr g (tab R.length (fun i => if i < k then fmul p (R.getD i 0) (dmK p s0 t i) else R.getD i 0)) c ∧ Ext w1 wr

set_option maxRecDepth 100000 in
set_option maxHeartbeats 4000000 in
theorem RInterp_c (p : Nat) (l : List Nat) (s : Nat) (a : Option Addr) (c : Nat) (w : World) (ha : Rd w a l) (hl : l.length ≤ 1000000) :
    Calls Try.prog 16 #[.int .u64 p, .slice a l.length c, .int .u64 s] w (IPost w (rI p l s).1 (rI p l s).2) := by
  have HA := Lib.hid ha
  clear ha
  have DC := RDomain_c p s l.length w (by omega) (by omega)
  by_cases ho : okT p l.length = true ∧ s % p ≠ 0
  case neg =>
    obtain ⟨e, he, h1, h2⟩ : ∃ e : Int, e ≠ 0 ∧ tD p s l.length = ([], e) ∧ rI p l s = ([], e) := by
      by_cases hv : vld p = false
      · exact ⟨7, by decide, by unfold tD; rw [if_pos hv], by unfold rI; rw [if_pos hv]⟩
      · exact ⟨1, by decide, by unfold tD; rw [if_neg hv, if_neg ho], by unfold rI; rw [if_neg hv, if_neg ho]⟩
    rw [h1] at DC
    have HDC := Lib.hid DC
    have E := Lib.hid h2
    have t1 : (e != 0) = true := bne_iff_ne.2 he
    clear DC ho h1 h2 he
    go_enter Try.func16, Try.ntmps16
    go_wp2_with fail
    refine HDC.out.mono ?_; rintro e' w1 ⟨v, rfl, o1, x1⟩
    clear o1
    go_wp2_with fail
    go_ret2
    rw [E.out]; exact ⟨_, rfl, Own.nil _ _, x1⟩
  have hv : ¬ vld p = false := fun h => by have h2 := ho.1; rw [okT_vld h] at h2; cases h2
  have hv' : vld p = true := by simpa using hv
  have hb := vld_bd hv'
  have h1 : tD p s l.length = (rdom p (s % p) (rootN p l.length) l.length, 0) := by unfold tD; rw [if_neg hv, if_pos ho, Int.toNat_natCast]
  rw [h1] at DC
  obtain ⟨_, k, hk, hnk, _, _⟩ := okT_spec ho.1
  have hp := pow_le12 hk
  have hp1 := Nat.two_pow_pos k
  have hnk' : l.length = 2 ^ k := by omega
  have h2 : rE p l 1 l.length = (reva p l 1 (rootN p l.length) l.length, 0) := by
    unfold rE; rw [if_neg hv, if_pos ⟨ho.1, by rw [one_mod hv']; omega⟩, if_pos (by omega), one_mod hv', Int.toNat_natCast]
  have EC := fun w' h => REvaluate_c p l 1 l.length a c w' h hl (by omega) (by omega)
  rw [h2] at EC
  have E : Hid (rI p l s = (tab l.length (fun i => fmul p ((reva p l 1 (rootN p l.length) l.length).getD (if i = 0 then 0 else l.length - i) 0) (dmK p (finv p l.length) (finv p (s % p)) i)), 0)) := Lib.hid (by
    unfold rI; rw [if_neg hv, if_pos ho]; rfl)
  obtain ⟨O, hO⟩ : ∃ O, O = reva p l 1 (rootN p l.length) l.length := ⟨_, rfl⟩
  have hOl : O.length = l.length := by rw [hO]; exact tab_len _ _
  rw [← hO] at E EC
  have HDC := Lib.hid DC
  have HEC : Hid (∀ w', Rd w' a l → Calls Try.prog 14 #[.int .u64 p, .slice a l.length c, .int .u64 1, .int .i64 l.length] w' (IPost w' O 0)) := Lib.hid EC
  have HOL := Lib.hid hOl
  have hl1 : 1 ≤ l.length := by omega
  have hl2 : l.length ≤ 4096 := by omega
  have g0 : ((p : Int) == 0) = false := beq_eq_false_iff_ne.2 (by omega)
  have hz : (s : Int) % (p : Int) = ((s % p : Nat) : Int) := by rw [Int.natCast_emod]
  obtain ⟨q, hq0⟩ : ∃ q, q = s % p := ⟨_, rfl⟩
  rw [← hq0] at hz E
  clear DC EC ho h1 h2 hv hv' hnk hnk' hp hp1 hO hOl hq0
  go_enter Try.func16, Try.ntmps16
  go_wp2_with fail
  refine HDC.out.mono ?_; rintro e' w1 ⟨v, rfl, o1, x1⟩
  clear o1
  go_wp2_with fail
  refine (HEC.out _ (HA.out.ext x1)).mono ?_; rintro e' w2 ⟨v2, rfl, o2, x2⟩
  obtain ⟨aO, cO, rfl, _, _, rO⟩ := o2.form
  obtain ⟨gO, fO, rfl, hcO⟩ := rO.at (by rw [HOL.out]; exact hl1)
  rw [HOL.out]
  have HCO := Lib.hid hcO
  have X2 := x1.trans x2
  have c0 := hcO 0 (by rw [HOL.out]; exact hl1)
  rw [Nat.add_zero] at c0
  clear o2 rO hcO
  go_wp2_with fail
  go_loopw [13, 14] (IRel1 O l.length w2) (fun _ i _ => (intOf i).toNat)
  case atStart =>
    refine ⟨0, by go_num, Nat.zero_le _, ?_, (Ext.refl _).alloc _⟩
    have hb : Blk (w2.alloc (.cells #[.int .u64 ((O.getD 0 0 : Nat) : Int)] 22)) w2.heap.size (rowA ([O.getD 0 0] ++ [])) := Blk.new _ _
    exact Own.ofBlk hb (Nat.le_refl _) (by simp [maxLen])
  case round =>
    obtain ⟨j, rfl, hj, ho, hext⟩ := hrel
    have HO := Lib.hid ho
    by_cases hlt : j < l.length - 1
    · obtain ⟨i, hi⟩ : ∃ i, i + j + 1 = l.length := ⟨l.length - 1 - j, by omega⟩
      have hij : (l.length : Int) - 1 - j = (i : Int) := by omega
      rw [hij]
      have c1 := hext.cell (HCO.out i (by rw [HOL.out]; omega))
      have E2 : Hid (tab (j + 1 + 1) (fun t => O.getD (if t = 0 then 0 else l.length - t) 0) = tab (j + 1) (fun t => O.getD (if t = 0 then 0 else l.length - t) 0) ++ [O.getD i 0]) := Lib.hid (by
        rw [tab_succ, if_neg (by omega), show l.length - (j + 1) = i by omega])
      obtain ⟨x, hx0⟩ : ∃ x, x = O.getD i 0 := ⟨_, rfl⟩
      rw [← hx0] at c1 E2
      have t1 : decide ((0 : Int) < (i : Int)) = true := decide_eq_true (by omega)
      have HIJ := Lib.hid hij
      have hil : i < l.length := by omega
      clear ho hx0 hij
      go_wp2_with (at_builtin; refine wpList_app1 rfl (.tmp 47) (.tmp 52) rfl w2.heap.size _ _ rfl (HO.out.grow ((Ext.refl _).alloc _)) wr.heap.size x 1 rfl (by simp) (by rw [tab_len]; omega) (Nat.le_trans hext.size (by simp)) ?_; intro v' w4 hown4 hx4 _; replace hx4 := hx4 w2 (hext.alloc _) (Nat.le_refl _); have HO4 := Lib.hid hown4; clear hown4)
      go_roundw
      case rel =>
        refine ⟨j + 1, ?_, by omega, ?_, hx4⟩
        · have := HIJ.out
          congr 1; omega
        · rw [E2.out]; exact HO4.out
      case measure => simp [intOf]; omega
    · have hij : (l.length : Int) - 1 - j = 0 := by omega
      rw [hij]
      have hjl : j + 1 = l.length := by omega
      have ho2 := HO.out
      rw [hjl] at ho2
      obtain ⟨R, hR⟩ : ∃ R, R = tab l.length (fun t => O.getD (if t = 0 then 0 else l.length - t) 0) := ⟨_, rfl⟩
      have hRl : R.length = l.length := by rw [hR]; exact tab_len _ _
      rw [← hR] at ho2
      have E3 : Hid (rI p l s = (tab R.length (fun i => fmul p (R.getD i 0) (dmK p (finv p l.length) (finv p q) i)), 0)) := Lib.hid (by
        rw [E.out, hRl]
        congr 1
        refine tab_congr fun t ht => ?_
        rw [hR, tab_get _ _ _ ht])
      obtain ⟨g, c4, hv4, hg, hc4, a4⟩ := ho2.arr (by rw [hRl]; exact hl1)
      rw [hRl] at hv4 hc4
      subst hv4
      have HA4 := Lib.hid a4
      have HRL := Lib.hid hRl
      clear ho ho2 HO hij hjl hR hRl a4 hlt
      go_wp2_with fail
      refine (RInv_c _ _ _).mono ?_; rintro e w5 ⟨rfl, x5⟩
      go_wp2_with fail
      rw [hz]
      refine (RInv_c _ _ _).mono ?_; rintro e w6 ⟨rfl, x6⟩
      obtain ⟨s0, hs0⟩ : ∃ s0, s0 = finv p l.length := ⟨_, rfl⟩
      obtain ⟨t, ht⟩ : ∃ t, t = finv p q := ⟨_, rfl⟩
      rw [← hs0, ← ht] at E3
      rw [← hs0, ← ht]
      clear hs0 ht
      go_wp2_with fail
      go_loopw [15, 17] (IRel2 p R s0 t g c4 w2) (fun _ i _ => l.length - (intOf i).toNat)
      case atStart => exact ⟨0, rfl, Nat.zero_le _, rfl, by rw [done_zero]; exact (HA4.out.ext x5).ext x6, (hext.trans x5).trans x6⟩
      case round =>
        obtain ⟨i, rfl, hi, rfl, ag, hext2⟩ := hrel
        rw [HRL.out] at hi
        by_cases hlt : i < l.length
        · have c1 := ag.at (i := i) (by rw [tab_len, HRL.out]; exact hlt)
          rw [tab_get _ _ _ (by rw [HRL.out]; exact hlt), if_neg (by omega)] at c1
          have hst := done_step R (fun i => fmul p (R.getD i 0) (dmK p s0 t i)) i
          have E1 : Hid (dmK p s0 t (i + 1) = fmul p (dmK p s0 t i) t) := Lib.hid rfl
          obtain ⟨x, hx0⟩ : ∃ x, x = R.getD i 0 := ⟨_, rfl⟩
          obtain ⟨u, hu0⟩ : ∃ u, u = dmK p s0 t i := ⟨_, rfl⟩
          obtain ⟨T, hT⟩ : ∃ T, T = tab R.length (fun j => if j < i then fmul p (R.getD j 0) (dmK p s0 t j) else R.getD j 0) := ⟨_, rfl⟩
          have hTl : T.length = R.length := by rw [hT]; exact tab_len _ _
          rw [← hT] at ag hst
          rw [← hx0] at c1 hst
          rw [← hu0] at hst E1
          rw [← hu0]
          have HAG := Lib.hid ag
          have HST := Lib.hid hst
          have HTL := Lib.hid hTl
          clear ag hst hTl hT hx0 hu0
          go_wp2_with fail
          refine (RMul_c _ _ _ _).mono ?_; rintro e w7 ⟨rfl, x7⟩
          have A6 := HAG.out.ext x7
          have f6 := A6.frozen i
          have d6 := A6.at (i := i) (by rw [HTL.out, HRL.out]; exact hlt)
          have HA6 := Lib.hid A6
          clear A6
          go_wp2_with fail
          refine (RMul_c _ _ _ _).mono ?_; rintro e w8 ⟨rfl, x8⟩
          go_wp2_with fail
          go_roundw
          case rel =>
            refine ⟨i + 1, by go_num, by rw [HRL.out]; omega, by rw [E1.out], ?_, ((hext2.trans x7).setNew hg _).trans x8⟩
            rw [← HST.out]; exact (HA6.out.set i _ (by rw [HTL.out, HRL.out]; exact hlt)).ext x8
          case measure => simp [intOf]; omega
        · obtain rfl : i = l.length := by omega
          have HO : Hid (Own wr w.heap.size (.slice (some ⟨g, 0, none⟩) l.length c4) (tab R.length (fun i => fmul p (R.getD i 0) (dmK p s0 t i)))) := Lib.hid (by
            rw [done_all R _ _ HRL.out] at ag
            have := ag.own (Nat.le_trans X2.size hg)
            rw [tab_len] at this
            rw [HRL.out]; exact this)
          clear ag
          go_wp2
          go_ret2
          rw [E3.out]; exact ⟨_, rfl, HO.out, X2.trans hext2⟩

def RedRel (p : Nat) (l : List Nat) (w : World) (o i : Value) (wr : World) : Prop :=
  ∃ k : Nat, i = .int .i64 k ∧ k ≤ l.length ∧ Own wr w.heap.size o ((l.take k).map (fun x => x % p)) ∧ Ext w wr
set_option maxHeartbeats 1000000 in
theorem Reduced_c (p : Nat) (l : List Nat) (a : Option Addr) (c : Nat) (w : World) (ha : Rd w a l) (hl : l.length ≤ 1000000) (hp : 0 < p) :
    Calls Try.prog 35 #[.int .u64 p, .slice a l.length c] w (SlPost w (l.map (fun x => x % p))) := by
  have HA := Lib.hid ha
  have g0 : ((p : Int) == 0) = false := beq_eq_false_iff_ne.2 (by omega)
  clear ha
  go_enter Try.func35, Try.ntmps35
  go_wp2
  go_loopw [5, 6] (RedRel p l w) (fun _ i _ => l.length - (intOf i).toNat)
  case atStart => exact ⟨0, rfl, Nat.zero_le _, Own.nil _ _, Ext.refl _⟩
  case round =>
    obtain ⟨k, rfl, hk, ho, hext⟩ := hrel
    have HO := Lib.hid ho
    clear ho
    by_cases hlt : k < l.length
    · obtain ⟨b, off, rfl, hcell⟩ := HA.out.at (by omega)
      have c1 := hext.cell (hcell k hlt)
      have E : Hid ((l.take (k + 1)).map (fun x => x % p) = (l.take k).map (fun x => x % p) ++ [l.getD k 0 % p]) := Lib.hid (by rw [take_snoc l k hlt, List.map_append]; rfl)
      obtain ⟨x, hx0⟩ : ∃ x, x = l.getD k 0 := ⟨_, rfl⟩
      rw [← hx0] at c1 E
      have hz : (x : Int) % (p : Int) = ((x % p : Nat) : Int) := by rw [Int.natCast_emod]
      obtain ⟨y, hy0⟩ : ∃ y, y = x % p := ⟨_, rfl⟩
      rw [← hy0] at hz E
      clear hcell hx0 hy0
      go_wp2_with (at_builtin; refine wpList_app1 rfl (.tmp 13) (.tmp 20) rfl w.heap.size _ _ rfl (HO.out.grow ((Ext.refl _).alloc _)) wr.heap.size y 1 rfl (by simp []) (by simp; omega) (Nat.le_trans hext.size (by simp)) ?_; intro v' w4 hown4 hx4 _; replace hx4 := hx4 w (hext.alloc _) (Nat.le_refl _); have HO4 := Lib.hid hown4; clear hown4)
      go_roundw
      case rel => exact ⟨k + 1, by go_num, by omega, by rw [E.out]; exact HO4.out, hx4⟩
      case measure => simp [intOf]; omega
    · obtain rfl : k = l.length := by omega
      go_wp2
      go_ret
      have ho := HO.out
      rw [List.take_length] at ho
      exact ⟨_, rfl, ho, hext⟩
end Go.Proofs.Ytcnbinjoeilfgaa
