/- Contracts of transform.Interpolate and of moidoreref04. -/
import Derived.Test.YtcnbinjoeilfgaaTr5
namespace Go.Proofs.Ytcnbinjoeilfgaa
open Go.RowKit

/-- Same on two slices that read alike. -/
theorem Same4_c (l : List Nat) (a b : Option Addr) (c d : Nat) (w : World) (ha : Rd w a l) (hb : Rd w b l) (hl : l.length ≤ 2000000000) :
    Calls Try.prog 17 #[.slice a l.length c, .slice b l.length d] w fun e w' => e = .returned (.bool true) ∧ Ext w w' := by
  have g0 : ((l.length : Int) != (l.length : Int)) = false := by simp
  go_enter Try.func17, Try.ntmps17
  go_wp2
  go_loopw [5] (fun i wr => ∃ k : Nat, i = .int .i64 k ∧ k ≤ l.length ∧ Ext w wr) (fun i _ => l.length - (intOf i).toNat)
  case atStart => exact ⟨0, rfl, Nat.zero_le _, Ext.refl _⟩
  case round =>
    obtain ⟨k, rfl, hk, hext⟩ := hrel
    by_cases hlt : k < l.length
    · obtain ⟨b1, o1, rfl, hc1⟩ := ha.at (by omega)
      obtain ⟨b2, o2, rfl, hc2⟩ := hb.at (by omega)
      have c1 := hext.cell (hc1 k hlt)
      have c2 := hext.cell (hc2 k hlt)
      obtain ⟨x, hx0⟩ : ∃ x, x = l.getD k 0 := ⟨_, rfl⟩
      rw [← hx0] at c1 c2
      clear hc1 hc2 hx0 ha hb
      go_wp2
      refine region_facts [[], [], [(0, 17), (1, 18)], [(2, 19)], [], [], [(4, 21), (5, 22)], [(6, 23)], [(3, 20), (7, 24)]] [some 17, some 18, some 19, some 20, some 21, some 22, some 23, some 24, some 25] (by kernel_rfl) (by kernel_rfl) ?_
      with_reducible apply From.eq
      · intro w' hx; have c1x := hx.cell c1; have c2x := hx.cell c2; (try dsimp only [List.nil_append, List.cons_append]); dsimp only [DepsV, fat, eqF]; go_wp2; exact OpPost.some _ rfl rfl (Ext.refl _) rfl
      with_reducible apply From.eq
      · intro w' hx; have c1x := hx.cell c1; have c2x := hx.cell c2; (try dsimp only [List.nil_append, List.cons_append]); dsimp only [DepsV, fat, eqF]; go_wp2; exact OpPost.some _ rfl rfl (Ext.refl _) rfl
      with_reducible apply From.eq
      · intro w' hx; have c1x := hx.cell c1; have c2x := hx.cell c2; (try dsimp only [List.nil_append, List.cons_append]); dsimp only [DepsV, fat, eqF]; rintro _ rfl _ rfl; go_wp2; exact OpPost.some _ rfl rfl (Ext.refl _) rfl
      with_reducible apply From.eq
      · intro w' hx; have c1x := hx.cell c1; have c2x := hx.cell c2; (try dsimp only [List.nil_append, List.cons_append]); dsimp only [DepsV, fat, eqF]; rintro _ rfl; go_wp2; exact OpPost.some _ rfl rfl (Ext.refl _) rfl
      with_reducible apply From.eq
      · intro w' hx; have c1x := hx.cell c1; have c2x := hx.cell c2; (try dsimp only [List.nil_append, List.cons_append]); dsimp only [DepsV, fat, eqF]; go_wp2; exact OpPost.some _ rfl rfl (Ext.refl _) rfl
      with_reducible apply From.eq
      · intro w' hx; have c1x := hx.cell c1; have c2x := hx.cell c2; (try dsimp only [List.nil_append, List.cons_append]); dsimp only [DepsV, fat, eqF]; go_wp2; exact OpPost.some _ rfl rfl (Ext.refl _) rfl
      with_reducible apply From.eq
      · intro w' hx; have c1x := hx.cell c1; have c2x := hx.cell c2; (try dsimp only [List.nil_append, List.cons_append]); dsimp only [DepsV, fat, eqF]; rintro _ rfl _ rfl; go_wp2; exact OpPost.some _ rfl rfl (Ext.refl _) rfl
      with_reducible apply From.eq
      · intro w' hx; have c1x := hx.cell c1; have c2x := hx.cell c2; (try dsimp only [List.nil_append, List.cons_append]); dsimp only [DepsV, fat, eqF]; rintro _ rfl; go_wp2; exact OpPost.some _ rfl rfl (Ext.refl _) rfl
      with_reducible apply From.eq
      · intro w' hx; have c1x := hx.cell c1; have c2x := hx.cell c2; (try dsimp only [List.nil_append, List.cons_append]); dsimp only [DepsV, fat, eqF]; rintro _ rfl _ rfl; go_wp2; exact OpPost.some _ rfl rfl (Ext.refl _) rfl
      with_reducible refine From.fin ?_
      intro w' hx
      (try dsimp only [List.nil_append, List.cons_append]); dsimp only [EndV, eqF]; rintro _ rfl _ rfl _ rfl _ rfl _ rfl _ rfl _ rfl _ rfl _ rfl; simp only [Act.put, List.setIfInBounds_toArray, List.set_cons_zero, List.set_cons_succ]
      go_wp2
      go_roundw
      case rel => exact ⟨k + 1, by go_num, by omega, hext.trans hx⟩
      case measure => simp [intOf]; omega
    · clear ha hb
      go_wp2
      go_ret
      exact ⟨rfl, hext⟩

theorem tab_succ (n : Nat) (f : Nat → Nat) : tab (n + 1) f = tab n f ++ [f n] := by
  unfold tab; rw [List.range_succ, List.map_append]; rfl

def PRelT (p : Nat) (L : List Nat) (iv : Nat) (g c : Nat) (w1 : World) (q s : Value) (wr : World) : Prop :=
  ∃ k : Nat, s = .int .i64 k ∧ k ≤ L.length ∧ q = .int .u64 (pwK p iv k) ∧ Arr wr g (tab L.length (fun t => if t < k then fmul p (L.getD t 0) (pwK p iv t) else L.getD t 0)) c ∧ Ext w1 wr
/-- One place more done. -/
theorem done_step (L : List Nat) (f : Nat → Nat) (j : Nat) :
    (tab L.length (fun t => if t < j then f t else L.getD t 0)).set j (f j) = tab L.length (fun t => if t < j + 1 then f t else L.getD t 0) := by
  refine tab_upd fun t _ => ?_
  by_cases h : t = j
  · subst h; rw [if_pos (by omega), if_pos rfl]
  · rw [if_neg h]
    by_cases h2 : t < j
    · rw [if_pos h2, if_pos (by omega)]
    · rw [if_neg h2, if_neg (by omega)]
theorem done_zero (L : List Nat) (f : Nat → Nat) : tab L.length (fun t => if t < 0 then f t else L.getD t 0) = L := by
  conv => rhs; rw [list_tab L]
  exact tab_congr fun t _ => by rw [if_neg (by omega)]
theorem done_all (L : List Nat) (f : Nat → Nat) (n : Nat) (h : L.length = n) : tab L.length (fun t => if t < n then f t else L.getD t 0) = tab n f := by
  rw [h]; exact tab_congr fun t ht => by rw [if_pos ht]

set_option maxRecDepth 100000 in
set_option maxHeartbeats 4000000 in
theorem Interpolate_c (p : Nat) (l : List Nat) (s : Nat) (a : Option Addr) (c : Nat) (w : World) (ha : Rd w a l) (hl : l.length ≤ 1000000) :
    Calls Try.prog 33 #[.agg #[.int .u64 p], .slice a l.length c, .int .u64 s] w (IPost w (tN p l s).1 (tN p l s).2) := by
  have HA := Lib.hid ha
  clear ha
  cases hv : vld p
  · have V := Lib.hid hv
    have E : Hid (tN p l s = ([], 7)) := Lib.hid (by unfold tN; rw [if_pos hv])
    clear hv
    go_enter Try.func33, Try.ntmps33
    go_wp2_with fail
    refine (Valid_c _ _).mono ?_; rintro e w1 ⟨rfl, x1⟩; rw [V.out]
    go_wp2_with fail
    go_ret2
    rw [E.out]; exact ⟨_, rfl, Own.nil _ _, x1.box⟩
  have V := Lib.hid hv
  have FM := Lib.hid (fred_mod hv s)
  clear hv
  by_cases hs : s % p = 0
  · have E : Hid (tN p l s = ([], 1)) := Lib.hid (by unfold tN; rw [if_neg (by rw [V.out]; simp), if_neg (fun h => h.2 hs)])
    have S0 : Hid (fred p s = 0) := Lib.hid (by rw [FM.out, hs])
    clear hs
    go_enter Try.func33, Try.ntmps33
    go_wp2_with fail
    refine (Valid_c _ _).mono ?_; rintro e w1 ⟨rfl, x1⟩; rw [V.out]
    have hc := x1.boxCell
    go_wp2_with fail
    refine (Reduce_c _ _ _).mono ?_; rintro e w3 ⟨rfl, x3⟩; rw [S0.out]
    go_wp2_with fail
    go_ret2
    rw [E.out]; exact ⟨_, rfl, Own.nil _ _, x1.box.trans x3⟩
  have IC := fun w' h => Inverse_c p l a c w' h hl
  have hs' := hs
  rw [← FM.out] at hs
  have t1 : ((fred p s : Int) == 0) = false := beq_eq_false_iff_ne.2 (by omega)
  by_cases ho : okT p l.length = true
  case neg =>
    have E : Hid (tN p l s = ([], 1)) := Lib.hid (by unfold tN; rw [if_neg (by rw [V.out]; simp), if_neg (fun h => ho h.1)])
    have E2 : tI p l = ([], 1) := by unfold tI; rw [if_neg (by rw [V.out]; simp), if_neg ho]
    rw [E2] at IC
    have HI := Lib.hid IC
    clear ho IC E2 hs hs'
    go_enter Try.func33, Try.ntmps33
    go_wp2_with fail
    refine (Valid_c _ _).mono ?_; rintro e w1 ⟨rfl, x1⟩; rw [V.out]
    have hc := x1.boxCell
    go_wp2_with fail
    refine (Reduce_c _ _ _).mono ?_; rintro e w3 ⟨rfl, x3⟩
    replace hc := x3.cell hc
    go_wp2_with fail
    refine (HI.out _ (HA.out.ext (x1.box.trans x3))).mono ?_; rintro e w4 ⟨v, rfl, o4, x4⟩
    clear o4
    go_wp2_with fail
    go_ret2
    rw [E.out]; exact ⟨_, rfl, Own.nil _ _, (x1.box.trans x3).trans x4⟩
  obtain ⟨_, k, hk, hnk, hd, hr⟩ := okT_spec ho
  have hn' : l.length = 2 ^ k := by omega
  have hp := pow_le12 hk
  have hp1 := Nat.two_pow_pos k
  have E : Hid (tN p l s = (tint p k l s (rootN p l.length) l.length, 0)) := Lib.hid (by unfold tN; rw [if_neg (by rw [V.out]; simp), if_pos ⟨ho, hs'⟩, log2_pow hn'])
  have E2 : tI p l = (tinv p k l (rootN p l.length) l.length, 0) := by unfold tI; rw [if_neg (by rw [V.out]; simp), if_pos ho, log2_pow hn']
  rw [E2] at IC
  have LF : (tinv p k l (rootN p l.length) l.length).length = l.length := by rw [hn']; exact Q.tinv_len V.out hd l hn' _ _
  have E3 : Hid (tint p k l s (rootN p l.length) l.length = tab l.length (fun i => fmul p ((tinv p k l (rootN p l.length) l.length).getD i 0) (pwK p (finv p s) i))) := Lib.hid rfl
  obtain ⟨L, hL⟩ : ∃ L, L = tinv p k l (rootN p l.length) l.length := ⟨_, rfl⟩
  rw [← hL] at IC LF E3
  have HI := Lib.hid IC
  have HLF := Lib.hid LF
  have hl1 : 1 ≤ l.length := by omega
  clear ho IC E2 hs hs' hnk hd hr hn' hp hp1 hL LF
  go_enter Try.func33, Try.ntmps33
  go_wp2_with fail
  refine (Valid_c _ _).mono ?_; rintro e w1 ⟨rfl, x1⟩; rw [V.out]
  have hc := x1.boxCell
  go_wp2_with fail
  refine (Reduce_c _ _ _).mono ?_; rintro e w3 ⟨rfl, x3⟩
  replace hc := x3.cell hc
  go_wp2_with fail
  refine (HI.out _ (HA.out.ext (x1.box.trans x3))).mono ?_; rintro e w4 ⟨v, rfl, o4, x4⟩
  obtain ⟨g, c4, rfl, hg, hc4, a4⟩ := o4.arr (by rw [HLF.out]; exact hl1)
  rw [HLF.out]
  rw [HLF.out] at hc4
  replace hc := x4.cell hc
  have HA4 := Lib.hid a4
  have X3 := x1.box.trans x3
  have hg2 : w.heap.size + 1 ≤ g := by have h1 := Nat.le_trans (x1.trans x3).size hg; simp at h1; exact h1
  clear o4 a4
  go_wp2_with fail
  refine (Inv_c _ _ _).mono ?_; rintro e w5 ⟨rfl, x5⟩
  replace hc := x5.cell hc
  obtain ⟨iv, hiv⟩ : ∃ iv, iv = finv p s := ⟨_, rfl⟩
  rw [← hiv] at E3
  rw [← hiv]
  have XB : Ext (w.alloc (.cells #[.int .u64 p] 29)) w5 := ((x1.trans x3).trans x4).trans x5
  have hgB : (w.alloc (.cells #[.int .u64 p] 29)).heap.size ≤ g := by simpa using hg2
  clear hiv
  go_wp2_with fail
  go_loopw [11, 35] (PRelT p L iv g c4 (w.alloc (.cells #[.int .u64 p] 29))) (fun _ i _ => l.length - (intOf i).toNat)
  case atStart =>
    refine ⟨0, rfl, Nat.zero_le _, rfl, ?_, XB⟩
    rw [done_zero]; exact HA4.out.ext x5
  case round =>
    obtain ⟨j, rfl, hj, rfl, ag, hext⟩ := hrel
    have hc6 := hext.boxCell
    rw [HLF.out] at hj
    by_cases hlt : j < l.length
    · have c1 := ag.at (i := j) (by rw [tab_len, HLF.out]; exact hlt)
      rw [tab_get _ _ _ (by rw [HLF.out]; exact hlt), if_neg (by omega)] at c1
      have hst := done_step L (fun t => fmul p (L.getD t 0) (pwK p iv t)) j
      have E1 : Hid (pwK p iv (j + 1) = fmul p (pwK p iv j) iv) := Lib.hid rfl
      obtain ⟨x, hx0⟩ : ∃ x, x = L.getD j 0 := ⟨_, rfl⟩
      obtain ⟨q, hq0⟩ : ∃ q, q = pwK p iv j := ⟨_, rfl⟩
      obtain ⟨T, hT⟩ : ∃ T, T = tab L.length (fun t => if t < j then fmul p (L.getD t 0) (pwK p iv t) else L.getD t 0) := ⟨_, rfl⟩
      have hTl : T.length = L.length := by rw [hT]; exact tab_len _ _
      rw [← hT] at ag hst
      rw [← hx0] at c1 hst
      rw [← hq0] at hst E1
      rw [← hq0]
      have HAG := Lib.hid ag
      have HST := Lib.hid hst
      have HTL := Lib.hid hTl
      clear ag hst hTl hT hx0 hq0
      go_wp2_with fail
      refine (Mul_c _ _ _ _).mono ?_; rintro e w6 ⟨rfl, x6⟩
      have A6 := HAG.out.ext x6
      have f6 := A6.frozen j
      have d6 := A6.at (i := j) (by rw [HTL.out, HLF.out]; exact hlt)
      have HA6 := Lib.hid A6
      have XC := (hext.trans x6).setNew (p := ⟨g, j, none⟩) hgB (.int .u64 (fmul p x q : Int))
      have hc7 := XC.boxCell
      clear A6
      go_wp2_with fail
      refine (Mul_c _ _ _ _).mono ?_; rintro e w7 ⟨rfl, x7⟩
      go_wp2_with fail
      go_roundw
      case rel =>
        refine ⟨j + 1, by go_num, by rw [HLF.out]; omega, by rw [E1.out], ?_, XC.trans x7⟩
        rw [← HST.out]; exact (HA6.out.set j _ (by rw [HTL.out, HLF.out]; exact hlt)).ext x7
      case measure => simp [intOf]; omega
    · obtain rfl : j = l.length := by omega
      have HO : Hid (Own wr w.heap.size (.slice (some ⟨g, 0, none⟩) l.length c4) (tint p k l s (rootN p l.length) l.length)) := Lib.hid (by
        rw [E3.out]
        rw [done_all L _ _ HLF.out] at ag
        have := ag.own (base := w.heap.size) (by omega)
        rw [tab_len] at this
        exact this)
      clear ag
      go_wp2
      go_ret2
      rw [E.out]; exact ⟨_, rfl, HO.out, hext.box⟩

/-! ### moidoreref04 -/
set_option maxHeartbeats 1000000 in
theorem Length_c (p : Nat) (n : Int) (w : World) (hn : n ≤ 9223372036854775807) (hn2 : -9223372036854775808 ≤ n) :
    Calls Try.prog 30 #[.int .u64 p, .int .i64 n] w fun e w' => e = .returned (.bool (okT p n)) ∧ Ext w w' := by
  have RC := Lib.hid (RRoot_c p n w hn hn2)
  have E := Lib.hid (okT_and p n)
  cases hb : rootB p n
  · have B := Lib.hid hb
    clear hb
    go_enter Try.func30, Try.ntmps30
    go_wp2_with fail
    refine RC.out.mono ?_; rintro e w1 ⟨rfl, x1⟩; rw [rootV_no B.out, B.out]
    go_wp2_with fail
    go_ret
    exact ⟨by rw [E.out, B.out]; rfl, x1⟩
  · have B := Lib.hid hb
    clear hb
    go_enter Try.func30, Try.ntmps30
    go_wp2_with fail
    refine RC.out.mono ?_; rintro e w1 ⟨rfl, x1⟩; rw [B.out]
    go_wp2_with fail
    go_ret
    exact ⟨by rw [E.out, B.out, Bool.true_and]; rfl, x1⟩

def RDRel (p s r N : Nat) (w1 : World) (x o i : Value) (wr : World) : Prop :=
  ∃ j : Nat, i = .int .i64 j ∧ j ≤ N ∧ x = .int .u64 (dmK p s r j) ∧ Own wr w1.heap.size o (tab j (dmK p s r)) ∧ Ext w1 wr

set_option maxRecDepth 100000 in
set_option maxHeartbeats 2000000 in
theorem RDomain_c (p s : Nat) (n : Int) (w : World) (hn : n ≤ 9223372036854775807) (hn2 : -9223372036854775808 ≤ n) :
    Calls Try.prog 19 #[.int .u64 p, .int .u64 s, .int .i64 n] w (IPost w (tD p s n).1 (tD p s n).2) := by
  cases hv : vld p
  · have V := Lib.hid hv
    have E : Hid (tD p s n = ([], 7)) := Lib.hid (by unfold tD; rw [if_pos hv])
    clear hv
    go_enter Try.func19, Try.ntmps19
    go_wp2_with fail
    refine (RValid_c _ _).mono ?_; rintro e w1 ⟨rfl, x1⟩; rw [V.out]
    go_wp2_with fail
    go_ret2
    rw [E.out]; exact ⟨_, rfl, Own.nil _ _, x1⟩
  have V := Lib.hid hv
  have hb := vld_bd hv
  clear hv
  have LC := Lib.hid (fun w' => Length_c p n w' hn hn2)
  by_cases ho : okT p n = true
  case neg =>
    have E : Hid (tD p s n = ([], 1)) := Lib.hid (by unfold tD; rw [if_neg (by rw [V.out]; simp), if_neg (fun h => ho h.1)])
    have O : Hid (okT p n = false) := Lib.hid (by simpa using ho)
    clear ho
    go_enter Try.func19, Try.ntmps19
    go_wp2_with fail
    refine (RValid_c _ _).mono ?_; rintro e w1 ⟨rfl, x1⟩; rw [V.out]
    go_wp2_with fail
    refine (LC.out _).mono ?_; rintro e w2 ⟨rfl, x2⟩; rw [O.out]
    go_wp2_with fail
    go_ret2
    rw [E.out]; exact ⟨_, rfl, Own.nil _ _, x1.trans x2⟩
  have O : Hid (okT p n = true) := Lib.hid ho
  have g0 : ((p : Int) == 0) = false := beq_eq_false_iff_ne.2 (by omega)
  have hz : (s : Int) % (p : Int) = ((s % p : Nat) : Int) := by rw [Int.natCast_emod]
  by_cases hs : s % p = 0
  · have E : Hid (tD p s n = ([], 1)) := Lib.hid (by unfold tD; rw [if_neg (by rw [V.out]; simp), if_neg (fun h => h.2 hs)])
    rw [hs] at hz
    clear ho hs
    go_enter Try.func19, Try.ntmps19
    go_wp2_with fail
    refine (RValid_c _ _).mono ?_; rintro e w1 ⟨rfl, x1⟩; rw [V.out]
    go_wp2_with fail
    refine (LC.out _).mono ?_; rintro e w2 ⟨rfl, x2⟩; rw [O.out]
    go_wp2_with fail
    go_ret2
    rw [E.out]; exact ⟨_, rfl, Own.nil _ _, x1.trans x2⟩
  have RC := fun w' => RRoot_c p n w' hn hn2
  obtain ⟨_, k, hk, hnk, hd, _⟩ := okT_spec ho
  have hrB : rootB p n = true := by rw [okT_and, Bool.and_eq_true] at ho; exact ho.1
  obtain ⟨N, hN⟩ : ∃ N, N = 2 ^ k := ⟨_, rfl⟩
  rw [← hN] at hnk
  have hp := pow_le12 hk
  have hp1 := Nat.two_pow_pos k
  rw [← hN] at hp hp1
  have E : Hid (tD p s n = (rdom p (s % p) (rootN p N) N, 0)) := Lib.hid (by unfold tD; rw [if_neg (by rw [V.out]; simp), if_pos ⟨ho, hs⟩, hnk, Int.toNat_natCast])
  have hrV : rootV p n = rootN p N := by unfold rootV; rw [hrB, if_pos rfl, hnk, Int.toNat_natCast]
  unfold RootPost at RC
  rw [hrB, hrV] at RC
  have HRC := Lib.hid RC
  obtain ⟨r, hr0⟩ : ∃ r, r = rootN p N := ⟨_, rfl⟩
  obtain ⟨q, hq0⟩ : ∃ q, q = s % p := ⟨_, rfl⟩
  rw [← hr0, ← hq0] at E
  rw [← hr0] at HRC
  rw [← hq0] at hz hs
  have t1 : ((q : Int) == 0) = false := beq_eq_false_iff_ne.2 (by omega)
  subst hnk
  clear ho hd hr0 hq0 hs hN hrB hrV RC
  go_enter Try.func19, Try.ntmps19
  go_wp2_with fail
  refine (RValid_c _ _).mono ?_; rintro e w1 ⟨rfl, x1⟩; rw [V.out]
  go_wp2_with fail
  refine (LC.out _).mono ?_; rintro e w2 ⟨rfl, x2⟩; rw [O.out]
  go_wp2_with fail
  refine (HRC.out _).mono ?_; rintro e w3 ⟨rfl, x3⟩
  have X3 := (x1.trans x2).trans x3
  go_wp2_with fail
  rw [hz]
  go_loopw [10, 11, 12] (RDRel p q r N w3) (fun _ _ i _ => N - (intOf i).toNat)
  case atStart => exact ⟨0, rfl, Nat.zero_le _, rfl, Own.nil _ _, Ext.refl _⟩
  case round =>
    obtain ⟨j, rfl, hj, rfl, ho, hext⟩ := hrel
    have HO := Lib.hid ho
    clear ho
    by_cases hlt : j < N
    · have E1 : Hid (dmK p q r (j + 1) = fmul p (dmK p q r j) r) := Lib.hid rfl
      have E2 : Hid (tab (j + 1) (dmK p q r) = tab j (dmK p q r) ++ [dmK p q r j]) := Lib.hid (tab_succ _ _)
      obtain ⟨x, hx0⟩ : ∃ x, x = dmK p q r j := ⟨_, rfl⟩
      rw [← hx0] at E1 E2
      rw [← hx0]
      clear hx0
      go_wp2_with (at_builtin; refine wpList_app1 rfl (.tmp 40) (.tmp 42) rfl w3.heap.size _ _ rfl (HO.out.grow ((Ext.refl _).alloc _)) wr.heap.size x 1 rfl (by simp) (by rw [tab_len]; omega) (Nat.le_trans hext.size (by simp)) ?_; intro v' w4 hown4 hx4 _; replace hx4 := hx4 w3 (hext.alloc _) (Nat.le_refl _); have HO4 := Lib.hid hown4; clear hown4)
      refine (RMul_c _ _ _ _).mono ?_; rintro e w5 ⟨rfl, x5⟩
      go_wp2_with fail
      go_roundw
      case rel =>
        refine ⟨j + 1, by go_num, by omega, by rw [E1.out], ?_, hx4.trans x5⟩
        rw [E2.out]; exact HO4.out.grow x5
      case measure => simp [intOf]; omega
    · obtain rfl : j = N := by omega
      go_wp2
      go_ret2
      rw [E.out]; exact ⟨_, rfl, HO.out.base X3.size, X3.trans hext⟩
end Go.Proofs.Ytcnbinjoeilfgaa
