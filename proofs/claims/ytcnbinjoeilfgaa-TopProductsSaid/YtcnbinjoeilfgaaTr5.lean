/- Contracts of package transform, second part. -/
import Derived.Test.YtcnbinjoeilfgaaTr4
namespace Go.Proofs.Ytcnbinjoeilfgaa
open Go.RowKit

theorem fred_mod {p : Nat} (h : vld p = true) (s : Nat) : fred p s = s % p := by unfold fred; rw [if_pos h]
def DRel (p s r N g : Nat) (w1 : World) (sh i : Value) (wr : World) : Prop :=
  ∃ j : Nat, i = .int .i64 j ∧ j ≤ N ∧ sh = .int .u64 (dmK p s r j) ∧ Arr wr g (fill (dmK p s r) N j) N ∧ Ext w1 wr

set_option maxRecDepth 100000 in
set_option maxHeartbeats 2000000 in
theorem Domain_c (p s : Nat) (n : Int) (w : World) (hn : n ≤ 9223372036854775807) (hn2 : -9223372036854775808 ≤ n) :
    Calls Try.prog 18 #[.agg #[.int .u64 p], .int .u64 s, .int .i64 n] w (IPost w (tD p s n).1 (tD p s n).2) := by
  cases hv : vld p
  · have V := Lib.hid hv
    have E : Hid (tD p s n = ([], 7)) := Lib.hid (by unfold tD; rw [if_pos hv])
    clear hv
    go_enter Try.func18, Try.ntmps18
    go_wp2_with fail
    refine (Valid_c _ _).mono ?_; rintro e w1 ⟨rfl, x1⟩; rw [V.out]
    go_wp2_with fail
    go_ret2
    rw [E.out]; exact ⟨_, rfl, Own.nil _ _, x1.box⟩
  have V := Lib.hid hv
  have FM := Lib.hid (fred_mod hv s)
  clear hv
  have RC := Lib.hid (fun w' => root_c p n w' hn hn2)
  by_cases ho : okT p n = true
  case neg =>
    have E : Hid (tD p s n = ([], 1)) := Lib.hid (by unfold tD; rw [if_neg (by rw [V.out]; simp), if_neg (fun h => ho h.1)])
    have O : Hid (rootB (if n ≤ 4096 then p else 0) n = false) := Lib.hid (by simpa [okT] using ho)
    clear ho
    go_enter Try.func18, Try.ntmps18
    go_wp2_with fail
    refine (Valid_c _ _).mono ?_; rintro e w1 ⟨rfl, x1⟩; rw [V.out]
    have hc := x1.boxCell
    go_wp2_with fail
    refine (RC.out _).mono ?_; rintro e w2 ⟨rfl, x2⟩; rw [rootV_no O.out, O.out]
    replace hc := x2.cell hc
    go_wp2_with fail
    refine (Reduce_c _ _ _).mono ?_; rintro e w3 ⟨rfl, x3⟩
    go_wp2_with fail
    go_ret2
    rw [E.out]; exact ⟨_, rfl, Own.nil _ _, (x1.box.trans x2).trans x3⟩
  have O : Hid (rootB (if n ≤ 4096 then p else 0) n = true) := Lib.hid ho
  by_cases hs : s % p = 0
  · have E : Hid (tD p s n = ([], 1)) := Lib.hid (by unfold tD; rw [if_neg (by rw [V.out]; simp), if_neg (fun h => h.2 hs)])
    have S0 : Hid (fred p s = 0) := Lib.hid (by rw [FM.out, hs])
    obtain ⟨_, k, hk, hnk, hd, hr⟩ := okT_spec ho
    have R := Lib.hid hr
    clear ho hs hnk hd hr
    go_enter Try.func18, Try.ntmps18
    go_wp2_with fail
    refine (Valid_c _ _).mono ?_; rintro e w1 ⟨rfl, x1⟩; rw [V.out]
    have hc := x1.boxCell
    go_wp2_with fail
    refine (RC.out _).mono ?_; rintro e w2 ⟨rfl, x2⟩; rw [O.out, R.out]
    replace hc := x2.cell hc
    go_wp2_with fail
    refine (Reduce_c _ _ _).mono ?_; rintro e w3 ⟨rfl, x3⟩; rw [S0.out]
    go_wp2_with fail
    go_ret2
    rw [E.out]; exact ⟨_, rfl, Own.nil _ _, (x1.box.trans x2).trans x3⟩
  obtain ⟨_, k, hk, hnk, hd, hr⟩ := okT_spec ho
  obtain ⟨N, hN⟩ : ∃ N, N = 2 ^ k := ⟨_, rfl⟩
  rw [← hN] at hnk hr
  have hp := pow_le12 hk
  have hp1 := Nat.two_pow_pos k
  rw [← hN] at hp hp1
  have E : Hid (tD p s n = (rdom p (s % p) (rootN p N) N, 0)) := Lib.hid (by unfold tD; rw [if_neg (by rw [V.out]; simp), if_pos ⟨ho, hs⟩, hnk, Int.toNat_natCast])
  have R := Lib.hid hr
  obtain ⟨r, hr0⟩ : ∃ r, r = rootN p N := ⟨_, rfl⟩
  obtain ⟨q, hq0⟩ : ∃ q, q = s % p := ⟨_, rfl⟩
  rw [← hr0, ← hq0] at E
  rw [← hr0] at R
  rw [← hq0] at FM hs
  have t1 : ((q : Int) == 0) = false := beq_eq_false_iff_ne.2 (by omega)
  subst hnk
  have hmk := make_c N N (Nat.le_refl _) (by omega)
  clear ho hd hr hr0 hq0 hs hN
  go_enter Try.func18, Try.ntmps18
  go_wp2_with fail
  refine (Valid_c _ _).mono ?_; rintro e w1 ⟨rfl, x1⟩; rw [V.out]
  have hc := x1.boxCell
  go_wp2_with fail
  refine (RC.out _).mono ?_; rintro e w2 ⟨rfl, x2⟩; rw [O.out, R.out]
  replace hc := x2.cell hc
  go_wp2_with fail
  refine (Reduce_c _ _ _).mono ?_; rintro e w3 ⟨rfl, x3⟩; rw [FM.out]
  replace hc := x3.cell hc
  have X3 := (x1.box.trans x2).trans x3
  go_wp2_with fail
  clear hmk
  go_loopw [1, 34] (DRel p q r N w3.heap.size w3) (fun _ i _ => N - (intOf i).toNat)
  case atStart =>
    refine ⟨0, rfl, Nat.zero_le _, rfl, ?_, (Ext.refl _).alloc _⟩
    have := Arr.ofBlk (Blk.new w3 (rowA (List.replicate N 0))) (by simp; omega)
    rw [List.length_replicate] at this
    rw [fill_zero]; exact this
  case round =>
    obtain ⟨j, rfl, hj, rfl, harr, hext⟩ := hrel
    have hc2 := hext.cell hc
    by_cases hlt : j < N
    · have hst := fill_step (dmK p q r) N j hlt
      have E1 : Hid (dmK p q r (j + 1) = fmul p (dmK p q r j) r) := Lib.hid rfl
      have hfl : j < (fill (dmK p q r) N j).length := by rw [fill_len _ _ _ hj]; exact hlt
      obtain ⟨x, hx0⟩ : ∃ x, x = dmK p q r j := ⟨_, rfl⟩
      obtain ⟨T, hT⟩ : ∃ T, T = fill (dmK p q r) N j := ⟨_, rfl⟩
      rw [← hx0] at hst E1
      rw [← hx0]
      rw [← hT] at hst harr hfl
      have f2 := harr.frozen j
      have c2 := harr.at hfl
      have A2 := harr.set j x hfl
      have HST := Lib.hid hst
      have HA2 := Lib.hid A2
      have hc3 := (hext.setNew (p := ⟨w3.heap.size, j, none⟩) (Nat.le_refl _) (.int .u64 (x : Int))).cell hc
      clear hx0 hT hst harr hfl A2
      go_wp2_with fail
      refine (Mul_c _ _ _ _).mono ?_; rintro e w4 ⟨rfl, x4⟩
      go_wp2_with fail
      go_roundw
      case rel =>
        refine ⟨j + 1, by go_num, by omega, by rw [E1.out], ?_, (hext.setNew (Nat.le_refl _) _).trans x4⟩
        rw [← HST.out]; exact HA2.out.ext x4
      case measure => simp [intOf]; omega
    · obtain rfl : j = N := by omega
      have HO : Hid (Own wr w.heap.size (.slice (some ⟨w3.heap.size, 0, none⟩) j j) (rdom p q r j)) := Lib.hid (by
        rw [fill_full] at harr
        have := harr.own X3.size
        rw [show ((List.range j).map (dmK p q r)).length = j by simp] at this
        exact this)
      clear harr
      go_wp2
      go_ret2
      rw [E.out]; exact ⟨_, rfl, HO.out, X3.trans hext⟩

def ERel (p : Nat) (l : List Nat) (s N g : Nat) (w1 : World) (q i : Value) (wr : World) : Prop :=
  ∃ j : Nat, i = .int .i64 j ∧ j ≤ l.length ∧ q = .int .u64 (pwK p s j) ∧ Arr wr g (tab N (fold p l s N j)) N ∧ Ext w1 wr

set_option maxRecDepth 100000 in
set_option maxHeartbeats 4000000 in
theorem Evaluate_c (p : Nat) (l : List Nat) (s : Nat) (n : Int) (a : Option Addr) (c : Nat) (w : World) (ha : Rd w a l) (hl : l.length ≤ 1000000) (hn : n ≤ 9223372036854775807) (hn2 : -9223372036854775808 ≤ n) :
    Calls Try.prog 21 #[.agg #[.int .u64 p], .slice a l.length c, .int .u64 s, .int .i64 n] w (IPost w (tE p l s n).1 (tE p l s n).2) := by
  have HA := Lib.hid ha
  clear ha
  cases hv : vld p
  · have V := Lib.hid hv
    have E : Hid (tE p l s n = ([], 7)) := Lib.hid (by unfold tE; rw [if_pos hv])
    clear hv
    go_enter Try.func21, Try.ntmps21
    go_wp2_with fail
    refine (Valid_c _ _).mono ?_; rintro e w1 ⟨rfl, x1⟩; rw [V.out]
    go_wp2_with fail
    go_ret2
    rw [E.out]; exact ⟨_, rfl, Own.nil _ _, x1.box⟩
  have V := Lib.hid hv
  have FM := Lib.hid (fred_mod hv s)
  clear hv
  have RC := Lib.hid (fun w' => root_c p n w' hn hn2)
  by_cases ho : okT p n = true
  case neg =>
    have E : Hid (tE p l s n = ([], 1)) := Lib.hid (by unfold tE; rw [if_neg (by rw [V.out]; simp), if_neg (fun h => ho h.1)])
    have O : Hid (rootB (if n ≤ 4096 then p else 0) n = false) := Lib.hid (by simpa [okT] using ho)
    clear ho
    go_enter Try.func21, Try.ntmps21
    go_wp2_with fail
    refine (Valid_c _ _).mono ?_; rintro e w1 ⟨rfl, x1⟩; rw [V.out]
    have hc := x1.boxCell
    go_wp2_with fail
    refine (RC.out _).mono ?_; rintro e w2 ⟨rfl, x2⟩; rw [rootV_no O.out, O.out]
    replace hc := x2.cell hc
    go_wp2_with fail
    refine (Reduce_c _ _ _).mono ?_; rintro e w3 ⟨rfl, x3⟩
    go_wp2_with fail
    go_ret2
    rw [E.out]; exact ⟨_, rfl, Own.nil _ _, (x1.box.trans x2).trans x3⟩
  have O : Hid (rootB (if n ≤ 4096 then p else 0) n = true) := Lib.hid ho
  by_cases hs : s % p = 0
  · have E : Hid (tE p l s n = ([], 1)) := Lib.hid (by unfold tE; rw [if_neg (by rw [V.out]; simp), if_neg (fun h => h.2 hs)])
    have S0 : Hid (fred p s = 0) := Lib.hid (by rw [FM.out, hs])
    obtain ⟨_, k, hk, hnk, hd, hr⟩ := okT_spec ho
    have R := Lib.hid hr
    clear ho hs hnk hd hr
    go_enter Try.func21, Try.ntmps21
    go_wp2_with fail
    refine (Valid_c _ _).mono ?_; rintro e w1 ⟨rfl, x1⟩; rw [V.out]
    have hc := x1.boxCell
    go_wp2_with fail
    refine (RC.out _).mono ?_; rintro e w2 ⟨rfl, x2⟩; rw [O.out, R.out]
    replace hc := x2.cell hc
    go_wp2_with fail
    refine (Reduce_c _ _ _).mono ?_; rintro e w3 ⟨rfl, x3⟩; rw [S0.out]
    go_wp2_with fail
    go_ret2
    rw [E.out]; exact ⟨_, rfl, Own.nil _ _, (x1.box.trans x2).trans x3⟩
  obtain ⟨_, k, hk, hnk, hd, hr⟩ := okT_spec ho
  obtain ⟨N, hN⟩ : ∃ N, N = 2 ^ k := ⟨_, rfl⟩
  rw [← hN] at hnk hr
  have hp := pow_le12 hk
  have hp1 := Nat.two_pow_pos k
  rw [← hN] at hp hp1
  have R := Lib.hid hr
  subst hnk
  by_cases h8 : l.length ≤ 8192
  case neg =>
    have E : Hid (tE p l s N = ([], 3)) := Lib.hid (by unfold tE; rw [if_neg (by rw [V.out]; simp), if_pos ⟨ho, hs⟩, if_neg h8])
    have t8 : decide ((8192 : Int) < l.length) = true := decide_eq_true (by omega)
    rw [← FM.out] at hs
    have t1 : ((fred p s : Int) == 0) = false := beq_eq_false_iff_ne.2 (by omega)
    clear ho hd hr hs hN h8
    go_enter Try.func21, Try.ntmps21
    go_wp2_with fail
    refine (Valid_c _ _).mono ?_; rintro e w1 ⟨rfl, x1⟩; rw [V.out]
    have hc := x1.boxCell
    go_wp2_with fail
    refine (RC.out _).mono ?_; rintro e w2 ⟨rfl, x2⟩; rw [O.out, R.out]
    replace hc := x2.cell hc
    go_wp2_with fail
    refine (Reduce_c _ _ _).mono ?_; rintro e w3 ⟨rfl, x3⟩
    go_wp2_with fail
    go_ret2
    rw [E.out]; exact ⟨_, rfl, Own.nil _ _, (x1.box.trans x2).trans x3⟩
  have t8 : decide ((8192 : Int) < l.length) = false := decide_eq_false (by omega)
  have E : Hid (tE p l s N = (teva p k l (s % p) (rootN p N) N, 0)) := Lib.hid (by unfold tE; rw [if_neg (by rw [V.out]; simp), if_pos ⟨ho, hs⟩, if_pos h8, Int.toNat_natCast, log2_pow hN])
  obtain ⟨r, hr0⟩ : ∃ r, r = rootN p N := ⟨_, rfl⟩
  obtain ⟨q, hq0⟩ : ∃ q, q = s % p := ⟨_, rfl⟩
  rw [← hr0, ← hq0] at E
  rw [← hr0] at R
  rw [← hq0] at FM hs
  have t1 : ((q : Int) == 0) = false := beq_eq_false_iff_ne.2 (by omega)
  have hmk := make_c N N (Nat.le_refl _) (by omega)
  have HN := Lib.hid hN
  have VC := Lib.hid (fun g c w' (h : Arr w' g (tab N (fold p l q N l.length)) c) => values_c p k (tab N (fold p l q N l.length)) g c r w' (by rw [tab_len]; exact HN.out) hk h)
  rw [tab_len] at VC
  have LF : Hid ((teva p k l q r N).length = N) := Lib.hid (by unfold teva; rw [fft_len _ _ _ _ (by rw [tab_len]; exact HN.out)]; exact HN.out.symm)
  have g0 : ((N : Int) == 0) = false := beq_eq_false_iff_ne.2 (by omega)
  clear ho hd hr hr0 hq0 hs hN
  go_enter Try.func21, Try.ntmps21
  go_wp2_with fail
  refine (Valid_c _ _).mono ?_; rintro e w1 ⟨rfl, x1⟩; rw [V.out]
  have hc := x1.boxCell
  go_wp2_with fail
  refine (RC.out _).mono ?_; rintro e w2 ⟨rfl, x2⟩; rw [O.out, R.out]
  replace hc := x2.cell hc
  go_wp2_with fail
  refine (Reduce_c _ _ _).mono ?_; rintro e w3 ⟨rfl, x3⟩; rw [FM.out]
  replace hc := x3.cell hc
  have X3 := (x1.box.trans x2).trans x3
  go_wp2_with fail
  clear hmk
  go_loopw [13, 41] (ERel p l q N w3.heap.size w3) (fun _ i _ => l.length - (intOf i).toNat)
  case atStart =>
    refine ⟨0, rfl, Nat.zero_le _, rfl, ?_, (Ext.refl _).alloc _⟩
    have := Arr.ofBlk (Blk.new w3 (rowA (List.replicate N 0))) (by simp; omega)
    rw [List.length_replicate] at this
    have e : tab N (fold p l q N 0) = List.replicate N 0 := by rw [tab_zero]; rfl
    rw [e]; exact this
  case round =>
    obtain ⟨j, rfl, hj, rfl, harr, hext⟩ := hrel
    have hc2 := hext.cell hc
    by_cases hlt : j < l.length
    · obtain ⟨b, off, rfl, hcell⟩ := HA.out.at (by omega)
      have c1 := hext.cell (X3.cell (hcell j hlt))
      have hst := fold_step p l q N j
      have E1 : Hid (pwK p q (j + 1) = fmul p (pwK p q j) q) := Lib.hid rfl
      have hm : j % N < N := Nat.mod_lt _ (by omega)
      have hz : (j : Int) % (N : Int) = ((j % N : Nat) : Int) := by rw [Int.natCast_emod]
      obtain ⟨m, hm0⟩ : ∃ m, m = j % N := ⟨_, rfl⟩
      rw [← hm0] at hst hm hz
      have c2 := harr.at (i := m) (by rw [tab_len]; exact hm)
      rw [tab_get _ _ _ hm] at c2
      obtain ⟨x, hx0⟩ : ∃ x, x = l.getD j 0 := ⟨_, rfl⟩
      obtain ⟨y, hy0⟩ : ∃ y, y = fold p l q N j m := ⟨_, rfl⟩
      obtain ⟨u, hu0⟩ : ∃ u, u = pwK p q j := ⟨_, rfl⟩
      obtain ⟨T, hT⟩ : ∃ T, T = tab N (fold p l q N j) := ⟨_, rfl⟩
      have hTl : T.length = N := by rw [hT]; exact tab_len _ _
      rw [← hx0] at c1 hst
      rw [← hy0] at c2 hst
      rw [← hu0] at hst E1
      rw [← hu0]
      rw [← hT] at hst harr
      have HST := Lib.hid hst
      have HTL := Lib.hid hTl
      have HAR := Lib.hid harr
      clear hcell hx0 hy0 hu0 hT hst hTl harr hm0
      go_wp2_with fail
      refine region_facts [[], [], [], [(1, 47), (2, 48)], [], [], [], [], [(6, 52), (7, 53)], [(5, 51), (8, 54)], [(9, 55)], [], [], [], [(11, 57), (12, 58), (13, 59)], [(4, 50), (10, 56), (14, 60)]] [some 46, some 47, some 48, some 49, some 50, some 51, some 52, some 53, some 54, some 55, some 56, some 57, some 58, some 59, some 60, some 61] (by kernel_rfl) (by kernel_rfl) ?_
      with_reducible apply From.eq
      · intro w' hx; have hc2x := hx.cell hc2; have c2x := hx.cell c2; (try dsimp only [List.nil_append, List.cons_append]); dsimp only [DepsV, fat, eqF]; go_wp2; exact OpPost.some _ rfl rfl (Ext.refl _) rfl
      with_reducible apply From.eq
      · intro w' hx; have hc2x := hx.cell hc2; have c2x := hx.cell c2; (try dsimp only [List.nil_append, List.cons_append]); dsimp only [DepsV, fat, eqF]; go_wp2; exact OpPost.some _ rfl rfl (Ext.refl _) rfl
      with_reducible apply From.eq
      · intro w' hx; have hc2x := hx.cell hc2; have c2x := hx.cell c2; (try dsimp only [List.nil_append, List.cons_append]); dsimp only [DepsV, fat, eqF]; go_wp2; exact OpPost.some _ rfl rfl (Ext.refl _) rfl
      with_reducible apply From.eq
      · intro w' hx; have hc2x := hx.cell hc2; have c2x := hx.cell c2; (try dsimp only [List.nil_append, List.cons_append]); dsimp only [DepsV, fat, eqF]; rintro _ rfl _ rfl; go_wp2; exact OpPost.some _ rfl rfl (Ext.refl _) rfl
      with_reducible apply From.eq
      · intro w' hx; have hc2x := hx.cell hc2; have c2x := hx.cell c2; (try dsimp only [List.nil_append, List.cons_append]); dsimp only [DepsV, fat, eqF]; go_wp2; exact OpPost.some _ rfl rfl (Ext.refl _) rfl
      with_reducible apply From.eq
      · intro w' hx; have hc2x := hx.cell hc2; have c2x := hx.cell c2; (try dsimp only [List.nil_append, List.cons_append]); dsimp only [DepsV, fat, eqF]; go_wp2; exact OpPost.some _ rfl rfl (Ext.refl _) rfl
      with_reducible apply From.eq
      · intro w' hx; have hc2x := hx.cell hc2; have c2x := hx.cell c2; (try dsimp only [List.nil_append, List.cons_append]); dsimp only [DepsV, fat, eqF]; go_wp2; exact OpPost.some _ rfl rfl (Ext.refl _) rfl
      with_reducible apply From.eq
      · intro w' hx; have hc2x := hx.cell hc2; have c2x := hx.cell c2; (try dsimp only [List.nil_append, List.cons_append]); dsimp only [DepsV, fat, eqF]; go_wp2; exact OpPost.some _ rfl rfl (Ext.refl _) rfl
      with_reducible apply From.eq
      · intro w' hx; have hc2x := hx.cell hc2; have c2x := hx.cell c2; (try dsimp only [List.nil_append, List.cons_append]); dsimp only [DepsV, fat, eqF]; rintro _ rfl _ rfl; go_wp2; exact OpPost.some _ rfl rfl (Ext.refl _) rfl
      with_reducible apply From.eq
      · intro w' hx; have hc2x := hx.cell hc2; have c2x := hx.cell c2; (try dsimp only [List.nil_append, List.cons_append]); dsimp only [DepsV, fat, eqF]; rintro _ rfl _ rfl; go_wp2; exact OpPost.some _ rfl rfl (Ext.refl _) rfl
      with_reducible apply From.eq
      · intro w' hx; have hc2x := hx.cell hc2; have c2x := hx.cell c2; (try dsimp only [List.nil_append, List.cons_append]); dsimp only [DepsV, fat, eqF]; rintro _ rfl; go_wp2; exact OpPost.some _ rfl rfl (Ext.refl _) rfl
      with_reducible apply From.eq
      · intro w' hx; have hc2x := hx.cell hc2; have c2x := hx.cell c2; (try dsimp only [List.nil_append, List.cons_append]); dsimp only [DepsV, fat, eqF]; go_wp2; exact OpPost.some _ rfl rfl (Ext.refl _) rfl
      with_reducible apply From.eq
      · intro w' hx; have hc2x := hx.cell hc2; have c2x := hx.cell c2; (try dsimp only [List.nil_append, List.cons_append]); dsimp only [DepsV, fat, eqF]; go_wp2; exact OpPost.some _ rfl rfl (Ext.refl _) rfl
      with_reducible apply From.eq
      · intro w' hx; have hc2x := hx.cell hc2; have c2x := hx.cell c2; (try dsimp only [List.nil_append, List.cons_append]); dsimp only [DepsV, fat, eqF]; go_wp2; exact OpPost.some _ rfl rfl (Ext.refl _) rfl
      with_reducible apply From.eq
      · intro w' hx; have hc2x := hx.cell hc2; have c2x := hx.cell c2; (try dsimp only [List.nil_append, List.cons_append]); dsimp only [DepsV, fat, eqF]; rintro _ rfl _ rfl _ rfl; go_wp2_with (go_at_call 44; refine (Mul_c _ _ _ _).mono ?_; rintro e w2 ⟨rfl, hb2⟩); exact OpPost.some _ rfl rfl hb2 rfl
      with_reducible apply From.eq
      · intro w' hx; have hc2x := hx.cell hc2; have c2x := hx.cell c2; (try dsimp only [List.nil_append, List.cons_append]); dsimp only [DepsV, fat, eqF]; rintro _ rfl _ rfl _ rfl; go_wp2_with (go_at_call 48; refine (Add_c _ _ _ _).mono ?_; rintro e w2 ⟨rfl, hb2⟩); exact OpPost.some _ rfl rfl hb2 rfl
      with_reducible refine From.fin ?_
      intro w' hx
      (try dsimp only [List.nil_append, List.cons_append]); dsimp only [EndV, eqF]; rintro _ rfl _ rfl _ rfl _ rfl _ rfl _ rfl _ rfl _ rfl _ rfl _ rfl _ rfl _ rfl _ rfl _ rfl _ rfl _ rfl; simp only [Act.put, List.setIfInBounds_toArray, List.set_cons_zero, List.set_cons_succ]
      obtain ⟨wa, rfl⟩ : ∃ wa : World, wa = w' := ⟨_, rfl⟩
      have xa := hx
      clear hx
      have A1 := HAR.out.ext xa
      have f1 := A1.frozen m
      have d1 := A1.at (i := m) (by rw [HTL.out]; exact hm)
      have HA1 := Lib.hid A1
      have hc4 := ((hext.trans xa).setNew (p := ⟨w3.heap.size, m, none⟩) (Nat.le_refl _) (.int .u64 (fadd p y (fmul p x u) : Int))).cell hc
      clear A1
      go_wp2_with fail
      refine (Mul_c _ _ _ _).mono ?_; rintro e w4 ⟨rfl, x4⟩
      go_wp2_with fail
      go_roundw
      case rel =>
        refine ⟨j + 1, by go_num, by omega, by rw [E1.out], ?_, ((hext.trans xa).setNew (Nat.le_refl _) _).trans x4⟩
        rw [← HST.out]; exact (HA1.out.set m _ (by rw [HTL.out]; exact hm)).ext x4
      case measure => simp [intOf]; omega
    · obtain rfl : j = l.length := by omega
      have HAR := Lib.hid harr
      clear harr
      go_wp2_with fail
      refine (VC.out _ _ _ HAR.out).mono ?_; rintro e w4 ⟨v4, rfl, a4, b4⟩
      have HO : Hid (Own w4 w.heap.size (.slice (some ⟨w3.heap.size, 0, none⟩) N N) (teva p k l q r N)) := Lib.hid (by
        have := a4.own X3.size
        rw [show (fft p k (tab N (fold p l q N l.length)) r).length = N from LF.out] at this
        exact this)
      clear a4
      go_wp2_with fail
      go_ret2
      rw [E.out]; exact ⟨_, rfl, HO.out, b4.ext (X3.trans hext) X3.size⟩
end Go.Proofs.Ytcnbinjoeilfgaa
