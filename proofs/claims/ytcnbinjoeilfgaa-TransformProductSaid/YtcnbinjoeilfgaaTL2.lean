/- Walks of laws of layer 4. -/
import Derived.Test.YtcnbinjoeilfgaaTA
import Derived.Test.YtcnbinjoeilfgaaLaw
import Derived.Test.YtcnbinjoeilfgaaTL1
namespace Go.Proofs.Ytcnbinjoeilfgaa
open Go.RowKit

theorem inv_facts {p : Nat} {l : List Nat} (ho : okT p l.length = true) :
    vld p = true ∧ ∃ X U, tF p l = (X, 0) ∧ X.length = l.length ∧ tI p X = (l.map (fred p), 0) ∧ tI p l = (U, 0) ∧ U.length = l.length ∧ tF p U = (l.map (fred p), 0) ∧ 1 ≤ l.length ∧
      ∀ s, s % p ≠ 0 → ∃ T, tE p l s l.length = (T, 0) ∧ T.length = l.length ∧ tN p T s = (l.map (fred p), 0) := by
  obtain ⟨hv, k, hk, hn, hd, _⟩ := okT_spec ho
  have hv' : ¬ vld p = false := by rw [hv]; simp
  have hn' : l.length = 2 ^ k := by omega
  have h8 := pow_le12 hk
  have hX : (tfor p k l (rootN p (2 ^ k))).length = 2 ^ k := fft_len _ _ _ _ (by simpa using hn')
  have hU := Q.tinv_len hv hd l hn' (rootN p (2 ^ k)) (2 ^ k)
  refine ⟨hv, tfor p k l (rootN p (2 ^ k)), tinv p k l (rootN p (2 ^ k)) (2 ^ k), ?_, by rw [hX, hn'], ?_, ?_, by rw [hU, hn'], ?_, by have := Nat.two_pow_pos k; omega, fun s hs => ?_⟩
  · unfold tF; rw [if_neg hv', if_pos ho, log2_pow hn', hn']
  · unfold tI; rw [if_neg hv', hX, ← hn', if_pos ho, log2_pow hn', hn', Q.inv_for hv hd l hn']
  · unfold tI; rw [if_neg hv', if_pos ho, log2_pow hn', hn']
  · unfold tF; rw [if_neg hv', hU, ← hn', if_pos ho, log2_pow hn', hn', Q.for_inv hv hd l hn']
  · have hT : (teva p k l (s % p) (rootN p (2 ^ k)) (2 ^ k)).length = 2 ^ k := fft_len _ _ _ _ (tab_len _ _)
    refine ⟨teva p k l (s % p) (rootN p (2 ^ k)) (2 ^ k), ?_, by rw [hT, hn'], ?_⟩
    · unfold tE; rw [if_neg hv', if_pos ⟨ho, hs⟩, if_pos (by omega), Int.toNat_natCast, log2_pow hn', hn']
    · unfold tN; rw [if_neg hv', hT, ← hn', if_pos ⟨ho, hs⟩, log2_pow hn', hn', Q.int_eva hv hd l hn' s hs]
theorem int_facts {p : Nat} {l : List Nat} {s : Nat} {A : List Nat} (h : rI p l s = (A, 0)) :
    0 < p ∧ ∃ D, tD p s l.length = (D, 0) ∧ D.length = l.length ∧ ∀ i, i < l.length → horner p (D.getD i 0) A = l.getD i 0 % p := by
  unfold rI at h
  split at h
  · injection h with h1 h2; exact absurd h2 (by decide)
  · rename_i hv'
    have hv : vld p = true := by simpa using hv'
    have hb := vld_bd hv
    split at h
    · rename_i ho
      injection h with h1 h2
      obtain ⟨_, k, hk, hn, hd, _⟩ := okT_spec ho.1
      have hn' : l.length = 2 ^ k := by omega
      refine ⟨by omega, rdom p (s % p) (rootN p l.length) l.length, ?_, tab_len _ _, fun i hi => ?_⟩
      · unfold tD; rw [if_neg hv', if_pos ho, Int.toNat_natCast]
      · rw [← h1]
        unfold rdom
        rw [tab_get _ _ _ hi, hn']
        exact (Q.int_value hv hd l hn' s ho.2 i (by rw [← hn']; exact hi)).trans (fred_mod hv _)
    · injection h with h1 h2; exact absurd h2 (by decide)
def TIRel (n : Nat) (w0 : World) (s : Value) (wr : World) : Prop := ∃ k : Nat, s = .int .i64 k ∧ k ≤ n ∧ Ext w0 wr

set_option maxRecDepth 100000 in
set_option maxHeartbeats 4000000 in
theorem TransformInterpolate_w (p : Nat) (l : List Nat) (s : Nat) (a : Option Addr) (c : Nat) (w : World) (ha : Rd w a l) :
    Calls Try.prog 9 #[.int .u64 p, .slice a l.length c, .int .u64 s] w fun e w' => e = .returned (.bool true) ∧ Ext w w' := by
  have HA := Lib.hid ha
  clear ha
  by_cases hf : l.length ≤ 64
  case neg =>
    have hd0 : decide ((64 : Int) < l.length) = true := decide_eq_true (by omega)
    clear hf
    go_enter Try.func9, Try.ntmps9
    go_wp2_with fail
    refine (awake4_c _).mono ?_; rintro e w1 ⟨rfl, x2⟩
    have X := x2
    clear x2
    go_wp2_with fail
    refine (awake4_c _).mono ?_; rintro e w3 ⟨rfl, x4⟩
    replace X := X.trans x4
    clear x4
    go_wp2_with fail
    go_ret
    exact ⟨rfl, X⟩
  have hd0 : decide ((64 : Int) < l.length) = false := decide_eq_false (by omega)
  have NC := fun w' (h : Rd w' a l) => Interpolate_c p l s a c w' h (by omega)
  have RC := fun w' (h : Rd w' a l) => RInterp_c p l s a c w' h (by omega)
  have k1 := rI_len p l s
  rw [Q.tN_same] at NC
  obtain ⟨⟨A, e1⟩, hA⟩ : ∃ x, x = rI p l s := ⟨_, rfl⟩
  rw [← hA] at NC RC k1
  have HNC := Lib.hid NC
  have HRC := Lib.hid RC
  have t1 : (e1 == e1) = true := by simp
  have t2 : (e1 != e1) = false := by simp
  have q1 : Hid (A.length ≤ 4096) := Lib.hid k1
  by_cases he : e1 = 0
  case neg =>
    have t3 : (e1 != 0) = true := bne_iff_ne.2 he
    clear NC RC hA k1 he
    go_enter Try.func9, Try.ntmps9
    go_wp2_with fail
    refine (awake4_c _).mono ?_; rintro e w1 ⟨rfl, x2⟩
    have X := x2
    clear x2
    have ha := HA.out.ext X
    go_wp2_with fail
    refine (HNC.out _ ha).mono ?_; rintro e w3 ⟨v, rfl, o5, x4⟩
    obtain ⟨r1_a, r1_c, rfl, _, _, r1⟩ := o5.form
    replace ha := ha.ext x4
    replace X := X.trans x4
    clear x4 o5
    go_wp2_with fail
    refine (HRC.out _ ha).mono ?_; rintro e w6 ⟨v, rfl, o8, x7⟩
    obtain ⟨r2_a, r2_c, rfl, _, _, r2⟩ := o8.form
    replace ha := ha.ext x7
    replace r1 := r1.ext x7
    replace X := X.trans x7
    clear x7 o8
    go_wp2_with fail
    refine (same4n A _ _ _ _ _ _ rfl r1 r2 (by have := q1.out; omega)).mono ?_; rintro e w9 ⟨rfl, x10⟩
    replace ha := ha.ext x10
    replace r1 := r1.ext x10
    replace r2 := r2.ext x10
    replace X := X.trans x10
    clear x10
    go_wp2_with fail
    refine (same4n A _ _ _ _ _ _ rfl r1 r2 (by have := q1.out; omega)).mono ?_; rintro e w11 ⟨rfl, x12⟩
    replace ha := ha.ext x12
    replace r1 := r1.ext x12
    replace r2 := r2.ext x12
    replace X := X.trans x12
    clear x12
    go_wp2_with fail
    go_ret
    exact ⟨rfl, X⟩
  subst he
  obtain ⟨hp, D, hD, hDl, hDv⟩ := int_facts hA.symm
  have DC := fun w' => RDomain_c p s l.length w' (by omega) (by omega)
  rw [hD] at DC
  have HDC := Lib.hid DC
  have HDL := Lib.hid hDl
  have HDV := Lib.hid hDv
  have g0 : ((p : Int) == 0) = false := beq_eq_false_iff_ne.2 (by omega)
  clear NC RC hA k1 DC hD hDl hDv t1 t2
  go_enter Try.func9, Try.ntmps9
  go_wp2_with fail
  refine (awake4_c _).mono ?_; rintro e w1 ⟨rfl, x2⟩
  have X := x2
  clear x2
  have ha := HA.out.ext X
  go_wp2_with fail
  refine (HNC.out _ ha).mono ?_; rintro e w3 ⟨v, rfl, o5, x4⟩
  obtain ⟨r1_a, r1_c, rfl, _, _, r1⟩ := o5.form
  replace ha := ha.ext x4
  replace X := X.trans x4
  clear x4 o5
  go_wp2_with fail
  refine (HRC.out _ ha).mono ?_; rintro e w6 ⟨v, rfl, o8, x7⟩
  obtain ⟨r2_a, r2_c, rfl, _, _, r2⟩ := o8.form
  replace ha := ha.ext x7
  replace r1 := r1.ext x7
  replace X := X.trans x7
  clear x7 o8
  go_wp2_with fail
  refine (same4n A _ _ _ _ _ _ rfl r1 r2 (by have := q1.out; omega)).mono ?_; rintro e w9 ⟨rfl, x10⟩
  replace ha := ha.ext x10
  replace r1 := r1.ext x10
  replace r2 := r2.ext x10
  replace X := X.trans x10
  clear x10
  go_wp2_with fail
  refine (HDC.out _).mono ?_; rintro e w11 ⟨v, rfl, o13, x12⟩
  obtain ⟨r3_a, r3_c, rfl, _, _, r3⟩ := o13.form
  replace ha := ha.ext x12
  replace r1 := r1.ext x12
  replace r2 := r2.ext x12
  replace X := X.trans x12
  clear x12 o13
  rw [HDL.out]
  have R1 := Lib.hid r1
  have R3 := Lib.hid r3
  have RA := Lib.hid ha
  clear r1 r2 r3 ha
  go_wp2_with fail
  obtain ⟨wz, hwz⟩ : ∃ wz : World, Ext w wz := ⟨w, Ext.refl _⟩
  clear hwz wz
  go_loopw [68] (TIRel l.length w11) (fun i _ => l.length - (intOf i).toNat)
  case atStart => exact ⟨0, rfl, Nat.zero_le _, Ext.refl _⟩
  case round =>
    obtain ⟨k, rfl, hk, hext⟩ := hrel
    by_cases hlt : k < l.length
    · obtain ⟨ga, offa, rfl, hcell⟩ := RA.out.at (by omega)
      obtain ⟨gd, offd, hgd, hcell2⟩ := R3.out.at (by rw [HDL.out]; omega)
      subst hgd
      have ca := hext.cell (hcell k hlt)
      have cb := hext.cell (hcell2 k (by rw [HDL.out]; exact hlt))
      have Ev := HDV.out k hlt
      obtain ⟨x, hx0⟩ : ∃ x, x = D.getD k 0 := ⟨_, rfl⟩
      obtain ⟨y, hy0⟩ : ∃ y, y = l.getD k 0 := ⟨_, rfl⟩
      rw [← hx0] at cb Ev
      rw [← hy0] at ca Ev
      have hz : (y : Int) % (p : Int) = ((y % p : Nat) : Int) := by rw [Int.natCast_emod]
      obtain ⟨u, hu0⟩ : ∃ u, u = y % p := ⟨_, rfl⟩
      rw [← hu0] at hz Ev
      have t5 : (((horner p x A : Nat) : Int) != ((u : Nat) : Int)) = false := by rw [Ev]; simp
      have EC := Lib.hid (fun w' (h : Ext wr w') => REval4_c p A x r1_a r1_c w' (R1.out.ext (hext.trans h)) (by have := q1.out; omega))
      clear hcell hcell2 hx0 hy0 hu0 Ev
      go_wp2_with fail
      refine region_facts [[], [], [], [], [(2, 73), (3, 74)], [(4, 75)], [(0, 71), (1, 72), (5, 76)], [], [], [(7, 78), (8, 79)], [(9, 80)], [], [(10, 81), (11, 82)], [(6, 77), (12, 83)]] [some 71, some 72, some 73, some 74, some 75, some 76, some 77, some 78, some 79, some 80, some 81, some 82, some 83, some 84] (by kernel_rfl) (by kernel_rfl) ?_
      with_reducible apply From.eq
      · intro w' hx; have cax := hx.cell ca; have cbx := hx.cell cb; (try dsimp only [List.nil_append, List.cons_append]); dsimp only [DepsV, fat, eqF]; go_wp2; exact OpPost.some _ rfl rfl (Ext.refl _) rfl
      with_reducible apply From.eq
      · intro w' hx; have cax := hx.cell ca; have cbx := hx.cell cb; (try dsimp only [List.nil_append, List.cons_append]); dsimp only [DepsV, fat, eqF]; go_wp2; exact OpPost.some _ rfl rfl (Ext.refl _) rfl
      with_reducible apply From.eq
      · intro w' hx; have cax := hx.cell ca; have cbx := hx.cell cb; (try dsimp only [List.nil_append, List.cons_append]); dsimp only [DepsV, fat, eqF]; go_wp2; exact OpPost.some _ rfl rfl (Ext.refl _) rfl
      with_reducible apply From.eq
      · intro w' hx; have cax := hx.cell ca; have cbx := hx.cell cb; (try dsimp only [List.nil_append, List.cons_append]); dsimp only [DepsV, fat, eqF]; go_wp2; exact OpPost.some _ rfl rfl (Ext.refl _) rfl
      with_reducible apply From.eq
      · intro w' hx; have cax := hx.cell ca; have cbx := hx.cell cb; (try dsimp only [List.nil_append, List.cons_append]); dsimp only [DepsV, fat, eqF]; rintro _ rfl _ rfl; go_wp2; exact OpPost.some _ rfl rfl (Ext.refl _) rfl
      with_reducible apply From.eq
      · intro w' hx; have cax := hx.cell ca; have cbx := hx.cell cb; (try dsimp only [List.nil_append, List.cons_append]); dsimp only [DepsV, fat, eqF]; rintro _ rfl; go_wp2; exact OpPost.some _ rfl rfl (Ext.refl _) rfl
      with_reducible apply From.eq
      · intro w' hx; have cax := hx.cell ca; have cbx := hx.cell cb; (try dsimp only [List.nil_append, List.cons_append]); dsimp only [DepsV, fat, eqF]; rintro _ rfl _ rfl _ rfl; go_wp2_with (go_at_call 34; refine (EC.out _ hx).mono ?_; rintro e w2 ⟨rfl, hb2⟩); exact OpPost.some _ rfl rfl hb2 rfl
      with_reducible apply From.eq
      · intro w' hx; have cax := hx.cell ca; have cbx := hx.cell cb; (try dsimp only [List.nil_append, List.cons_append]); dsimp only [DepsV, fat, eqF]; go_wp2; exact OpPost.some _ rfl rfl (Ext.refl _) rfl
      with_reducible apply From.eq
      · intro w' hx; have cax := hx.cell ca; have cbx := hx.cell cb; (try dsimp only [List.nil_append, List.cons_append]); dsimp only [DepsV, fat, eqF]; go_wp2; exact OpPost.some _ rfl rfl (Ext.refl _) rfl
      with_reducible apply From.eq
      · intro w' hx; have cax := hx.cell ca; have cbx := hx.cell cb; (try dsimp only [List.nil_append, List.cons_append]); dsimp only [DepsV, fat, eqF]; rintro _ rfl _ rfl; go_wp2; exact OpPost.some _ rfl rfl (Ext.refl _) rfl
      with_reducible apply From.eq
      · intro w' hx; have cax := hx.cell ca; have cbx := hx.cell cb; (try dsimp only [List.nil_append, List.cons_append]); dsimp only [DepsV, fat, eqF]; rintro _ rfl; go_wp2; exact OpPost.some _ rfl rfl (Ext.refl _) rfl
      with_reducible apply From.eq
      · intro w' hx; have cax := hx.cell ca; have cbx := hx.cell cb; (try dsimp only [List.nil_append, List.cons_append]); dsimp only [DepsV, fat, eqF]; go_wp2; exact OpPost.some _ rfl rfl (Ext.refl _) rfl
      with_reducible apply From.eq
      · intro w' hx; have cax := hx.cell ca; have cbx := hx.cell cb; (try dsimp only [List.nil_append, List.cons_append]); dsimp only [DepsV, fat, eqF]; rintro _ rfl _ rfl; go_wp2; exact OpPost.some _ rfl rfl (Ext.refl _) rfl
      with_reducible apply From.eq
      · intro w' hx; have cax := hx.cell ca; have cbx := hx.cell cb; (try dsimp only [List.nil_append, List.cons_append]); dsimp only [DepsV, fat, eqF]; rintro _ rfl _ rfl; go_wp2; exact OpPost.some _ rfl rfl (Ext.refl _) rfl
      with_reducible refine From.fin ?_
      intro w' hx
      (try dsimp only [List.nil_append, List.cons_append]); dsimp only [EndV, eqF]; rintro _ rfl _ rfl _ rfl _ rfl _ rfl _ rfl _ rfl _ rfl _ rfl _ rfl _ rfl _ rfl _ rfl _ rfl; simp only [Act.put, List.setIfInBounds_toArray, List.set_cons_zero, List.set_cons_succ]
      go_wp2
      go_roundw
      case rel => exact ⟨k + 1, by go_num, by omega, hext.trans hx⟩
      case measure => simp [intOf]; omega
    · obtain rfl : k = l.length := by omega
      go_wp2
      go_ret
      exact ⟨rfl, X.trans hext⟩

set_option maxRecDepth 100000 in
set_option maxHeartbeats 4000000 in
theorem TransformInverse_w (p : Nat) (l : List Nat) (s : Nat) (n : Int) (a : Option Addr) (c : Nat) (w : World) (ha : Rd w a l) (_hn : n ≤ 9223372036854775807) (_hn2 : -9223372036854775808 ≤ n) :
    Calls Try.prog 10 #[.agg #[.int .u64 p, .slice a l.length c, .int .u64 s, .int .i64 n]] w fun e w' => e = .returned (.bool true) ∧ Ext w w' := by
  have HA := Lib.hid ha
  clear ha
  have h0 : (w.alloc (.cells #[.int .u64 p, .slice a l.length c, .int .u64 s, .int .i64 n] 38)).cell? ⟨w.heap.size, 0, none⟩ = some (.int .u64 p) := by simp
  have h1 : (w.alloc (.cells #[.int .u64 p, .slice a l.length c, .int .u64 s, .int .i64 n] 38)).cell? ⟨w.heap.size, 1, none⟩ = some (.slice a l.length c) := by simp
  have h2 : (w.alloc (.cells #[.int .u64 p, .slice a l.length c, .int .u64 s, .int .i64 n] 38)).cell? ⟨w.heap.size, 2, none⟩ = some (.int .u64 s) := by simp
  have h3 : (w.alloc (.cells #[.int .u64 p, .slice a l.length c, .int .u64 s, .int .i64 n] 38)).cell? ⟨w.heap.size, 3, none⟩ = some (.int .i64 n) := by simp
  have SC := Lib.hid (fun w' => small_c p s n l a c w')
  by_cases hf : l.length ≤ 80 ∧ (n ≤ 64 ∨ 4096 < n)
  case neg =>
    have F : Hid (decide (l.length ≤ 80 ∧ (n ≤ 64 ∨ 4096 < n)) = false) := Lib.hid (decide_eq_false hf)
    clear hf
    go_enter Try.func10, Try.ntmps10
    go_wp2_with fail
    refine (awake4_c _).mono ?_; rintro e w1 ⟨rfl, x0⟩
    replace h0 := x0.cell h0
    replace h1 := x0.cell h1
    replace h2 := x0.cell h2
    replace h3 := x0.cell h3
    have X := x0.box
    clear x0
    go_wp2_with fail
    refine (SC.out _).mono ?_; rintro e w2 ⟨rfl, x3⟩
    replace h0 := x3.cell h0
    replace h1 := x3.cell h1
    replace h2 := x3.cell h2
    replace h3 := x3.cell h3
    replace X := X.trans x3
    clear x3
    rw [F.out]
    go_wp2_with fail
    refine (awake4_c _).mono ?_; rintro e w4 ⟨rfl, x5⟩
    replace h0 := x5.cell h0
    replace h1 := x5.cell h1
    replace h2 := x5.cell h2
    replace h3 := x5.cell h3
    replace X := X.trans x5
    clear x5
    go_wp2_with fail
    go_ret
    exact ⟨rfl, X⟩
  have F : Hid (decide (l.length ≤ 80 ∧ (n ≤ 64 ∨ 4096 < n)) = true) := Lib.hid (decide_eq_true hf)
  have hl80 : l.length ≤ 80 := hf.1
  clear hf
  cases hv : vld p
  case false =>
    have V := Lib.hid hv
    clear hv
    go_enter Try.func10, Try.ntmps10
    go_wp2_with fail
    refine (awake4_c _).mono ?_; rintro e w1 ⟨rfl, x0⟩
    replace h0 := x0.cell h0
    replace h1 := x0.cell h1
    replace h2 := x0.cell h2
    replace h3 := x0.cell h3
    have X := x0.box
    clear x0
    go_wp2_with fail
    refine (SC.out _).mono ?_; rintro e w2 ⟨rfl, x3⟩
    replace h0 := x3.cell h0
    replace h1 := x3.cell h1
    replace h2 := x3.cell h2
    replace h3 := x3.cell h3
    replace X := X.trans x3
    clear x3
    rw [F.out]
    go_wp2_with fail
    refine (RValid_c _ _).mono ?_; rintro e w4 ⟨rfl, x5⟩
    replace h0 := x5.cell h0
    replace h1 := x5.cell h1
    replace h2 := x5.cell h2
    replace h3 := x5.cell h3
    replace X := X.trans x5
    clear x5
    rw [V.out]
    go_wp2_with fail
    refine (awake4_c _).mono ?_; rintro e w6 ⟨rfl, x7⟩
    replace h0 := x7.cell h0
    replace h1 := x7.cell h1
    replace h2 := x7.cell h2
    replace h3 := x7.cell h3
    replace X := X.trans x7
    clear x7
    go_wp2_with fail
    go_ret
    exact ⟨rfl, X⟩
  have V := Lib.hid hv
  have LC := Lib.hid (fun w' => Length_c p l.length w' (by omega) (by omega))
  clear hv
  by_cases ho : okT p l.length = true
  case neg =>
    have O : Hid (okT p l.length = false) := Lib.hid (by simpa using ho)
    clear ho
    go_enter Try.func10, Try.ntmps10
    go_wp2_with fail
    refine (awake4_c _).mono ?_; rintro e w1 ⟨rfl, x0⟩
    replace h0 := x0.cell h0
    replace h1 := x0.cell h1
    replace h2 := x0.cell h2
    replace h3 := x0.cell h3
    have X := x0.box
    clear x0
    go_wp2_with fail
    refine (SC.out _).mono ?_; rintro e w2 ⟨rfl, x3⟩
    replace h0 := x3.cell h0
    replace h1 := x3.cell h1
    replace h2 := x3.cell h2
    replace h3 := x3.cell h3
    replace X := X.trans x3
    clear x3
    rw [F.out]
    go_wp2_with fail
    refine (RValid_c _ _).mono ?_; rintro e w4 ⟨rfl, x5⟩
    replace h0 := x5.cell h0
    replace h1 := x5.cell h1
    replace h2 := x5.cell h2
    replace h3 := x5.cell h3
    replace X := X.trans x5
    clear x5
    rw [V.out]
    go_wp2_with fail
    refine (LC.out _).mono ?_; rintro e w6 ⟨rfl, x7⟩
    replace h0 := x7.cell h0
    replace h1 := x7.cell h1
    replace h2 := x7.cell h2
    replace h3 := x7.cell h3
    replace X := X.trans x7
    clear x7
    rw [O.out]
    go_wp2_with fail
    refine (awake4_c _).mono ?_; rintro e w8 ⟨rfl, x9⟩
    replace h0 := x9.cell h0
    replace h1 := x9.cell h1
    replace h2 := x9.cell h2
    replace h3 := x9.cell h3
    replace X := X.trans x9
    clear x9
    go_wp2_with fail
    go_ret
    exact ⟨rfl, X⟩
  have O := Lib.hid ho
  obtain ⟨_, Y, U, f1, lY, f2, f3, lU, f4, hl1, f5⟩ := inv_facts ho
  have hb := vld_bd V.out
  have eR : l.map (fun x => x % p) = l.map (fred p) := List.map_congr_left fun x _ => (fred_mod V.out x).symm
  have C1 := fun w' (h : Rd w' a l) => Forward_c p l a c w' h (by omega)
  have C2 := fun w' a' c' (h : Rd w' a' Y) => Inverse_c p Y a' c' w' h (by omega)
  have C3 := fun w' (h : Rd w' a l) => Inverse_c p l a c w' h (by omega)
  have C4 := fun w' a' c' (h : Rd w' a' U) => Forward_c p U a' c' w' h (by omega)
  have C5 := fun w' (h : Rd w' a l) => Reduced_c p l a c w' h (by omega) (by omega)
  rw [f1] at C1
  rw [f2] at C2
  rw [f3] at C3
  rw [f4] at C4
  rw [eR] at C5
  obtain ⟨R, hR⟩ : ∃ R, R = l.map (fred p) := ⟨_, rfl⟩
  have lR : R.length ≤ 80 := by rw [hR]; simpa using hl80
  rw [← hR] at C2 C4 C5 f5
  have H1 := Lib.hid C1
  have H2 := Lib.hid C2
  have H3 := Lib.hid C3
  have H4 := Lib.hid C4
  have H5 := Lib.hid C5
  have LR := Lib.hid lR
  have g0 : ((p : Int) == 0) = false := beq_eq_false_iff_ne.2 (by omega)
  have hz : (s : Int) % (p : Int) = ((s % p : Nat) : Int) := by rw [Int.natCast_emod]
  clear ho f1 f2 f3 f4 C1 C2 C3 C4 C5 eR hR lR lU lY
  by_cases hs : s % p = 0
  · rw [hs] at hz
    clear hs f5
    go_enter Try.func10, Try.ntmps10
    go_wp2_with fail
    refine (awake4_c _).mono ?_; rintro e w1 ⟨rfl, x0⟩
    replace h0 := x0.cell h0
    replace h1 := x0.cell h1
    replace h2 := x0.cell h2
    replace h3 := x0.cell h3
    have X := x0.box
    clear x0
    go_wp2_with fail
    refine (SC.out _).mono ?_; rintro e w2 ⟨rfl, x3⟩
    replace h0 := x3.cell h0
    replace h1 := x3.cell h1
    replace h2 := x3.cell h2
    replace h3 := x3.cell h3
    replace X := X.trans x3
    clear x3
    rw [F.out]
    go_wp2_with fail
    refine (RValid_c _ _).mono ?_; rintro e w4 ⟨rfl, x5⟩
    replace h0 := x5.cell h0
    replace h1 := x5.cell h1
    replace h2 := x5.cell h2
    replace h3 := x5.cell h3
    replace X := X.trans x5
    clear x5
    rw [V.out]
    go_wp2_with fail
    refine (LC.out _).mono ?_; rintro e w6 ⟨rfl, x7⟩
    replace h0 := x7.cell h0
    replace h1 := x7.cell h1
    replace h2 := x7.cell h2
    replace h3 := x7.cell h3
    replace X := X.trans x7
    clear x7
    rw [O.out]
    have ha := HA.out.ext X
    have h0b := ((Ext.refl w6).alloc (.cells #[.int .u64 p] 29)).cell h0
    have h1b := ((Ext.refl w6).alloc (.cells #[.int .u64 p] 29)).cell h1
    have h2b := ((Ext.refl w6).alloc (.cells #[.int .u64 p] 29)).cell h2
    have h3b := ((Ext.refl w6).alloc (.cells #[.int .u64 p] 29)).cell h3
    go_wp2_with fail
    refine (H1.out _ (ha.ext ((Ext.refl _).alloc _))).mono ?_; rintro e w10 ⟨v, rfl, o9, x8⟩
    obtain ⟨r1_a, r1_c, rfl, _, _, r1⟩ := o9.form
    have hc := x8.boxCell
    replace h0 := x8.box.cell h0
    replace h1 := x8.box.cell h1
    replace h2 := x8.box.cell h2
    replace h3 := x8.box.cell h3
    replace ha := ha.ext x8.box
    replace X := X.trans x8.box
    clear x8 o9 h0b h1b h2b h3b
    go_wp2_with fail
    refine (H2.out _ _ _ r1).mono ?_; rintro e w11 ⟨v, rfl, o13, x12⟩
    obtain ⟨r2_a, r2_c, rfl, _, _, r2⟩ := o13.form
    replace h0 := x12.cell h0
    replace h1 := x12.cell h1
    replace h2 := x12.cell h2
    replace h3 := x12.cell h3
    replace ha := ha.ext x12
    replace r1 := r1.ext x12
    replace hc := x12.cell hc
    replace X := X.trans x12
    clear x12 o13
    go_wp2_with fail
    refine (H3.out _ ha).mono ?_; rintro e w14 ⟨v, rfl, o16, x15⟩
    obtain ⟨r3_a, r3_c, rfl, _, _, r3⟩ := o16.form
    replace h0 := x15.cell h0
    replace h1 := x15.cell h1
    replace h2 := x15.cell h2
    replace h3 := x15.cell h3
    replace ha := ha.ext x15
    replace r1 := r1.ext x15
    replace hc := x15.cell hc
    replace r2 := r2.ext x15
    replace X := X.trans x15
    clear x15 o16
    go_wp2_with fail
    refine (H4.out _ _ _ r3).mono ?_; rintro e w17 ⟨v, rfl, o19, x18⟩
    obtain ⟨r4_a, r4_c, rfl, _, _, r4⟩ := o19.form
    replace h0 := x18.cell h0
    replace h1 := x18.cell h1
    replace h2 := x18.cell h2
    replace h3 := x18.cell h3
    replace ha := ha.ext x18
    replace r1 := r1.ext x18
    replace hc := x18.cell hc
    replace r2 := r2.ext x18
    replace r3 := r3.ext x18
    replace X := X.trans x18
    clear x18 o19
    go_wp2_with fail
    refine (H5.out _ ha).mono ?_; rintro e w20 ⟨v, rfl, o22, x21⟩
    obtain ⟨r5_a, r5_c, rfl, _, _, r5⟩ := o22.form
    replace h0 := x21.cell h0
    replace h1 := x21.cell h1
    replace h2 := x21.cell h2
    replace h3 := x21.cell h3
    replace ha := ha.ext x21
    replace r1 := r1.ext x21
    replace hc := x21.cell hc
    replace r2 := r2.ext x21
    replace r3 := r3.ext x21
    replace r4 := r4.ext x21
    replace X := X.trans x21
    clear x21 o22
    go_wp2_with fail
    refine (same4n R _ _ _ _ _ _ rfl r2 r5 (by have := LR.out; omega)).mono ?_; rintro e w23 ⟨rfl, x24⟩
    replace h0 := x24.cell h0
    replace h1 := x24.cell h1
    replace h2 := x24.cell h2
    replace h3 := x24.cell h3
    replace ha := ha.ext x24
    replace r1 := r1.ext x24
    replace hc := x24.cell hc
    replace r2 := r2.ext x24
    replace r3 := r3.ext x24
    replace r4 := r4.ext x24
    replace r5 := r5.ext x24
    replace X := X.trans x24
    clear x24
    go_wp2_with fail
    refine (same4n R _ _ _ _ _ _ rfl r4 r5 (by have := LR.out; omega)).mono ?_; rintro e w25 ⟨rfl, x26⟩
    replace h0 := x26.cell h0
    replace h1 := x26.cell h1
    replace h2 := x26.cell h2
    replace h3 := x26.cell h3
    replace ha := ha.ext x26
    replace r1 := r1.ext x26
    replace hc := x26.cell hc
    replace r2 := r2.ext x26
    replace r3 := r3.ext x26
    replace r4 := r4.ext x26
    replace r5 := r5.ext x26
    replace X := X.trans x26
    clear x26
    go_wp2_with fail
    go_ret
    exact ⟨rfl, X⟩
  · obtain ⟨T, f6, lT, f7⟩ := f5 s hs
    have C6 := fun w' (h : Rd w' a l) => Evaluate_c p l s l.length a c w' h (by omega) (by omega) (by omega)
    have C7 := fun w' a' c' (h : Rd w' a' T) => Interpolate_c p T s a' c' w' h (by omega)
    rw [f6] at C6
    rw [f7] at C7
    have H6 := Lib.hid C6
    have H7 := Lib.hid C7
    obtain ⟨u, hu⟩ : ∃ u, u = s % p := ⟨_, rfl⟩
    rw [← hu] at hz hs
    have t9 : ((u : Int) == 0) = false := beq_eq_false_iff_ne.2 (by omega)
    clear f5 f6 f7 C6 C7 hs lT hu
    go_enter Try.func10, Try.ntmps10
    go_wp2_with fail
    refine (awake4_c _).mono ?_; rintro e w1 ⟨rfl, x0⟩
    replace h0 := x0.cell h0
    replace h1 := x0.cell h1
    replace h2 := x0.cell h2
    replace h3 := x0.cell h3
    have X := x0.box
    clear x0
    go_wp2_with fail
    refine (SC.out _).mono ?_; rintro e w2 ⟨rfl, x3⟩
    replace h0 := x3.cell h0
    replace h1 := x3.cell h1
    replace h2 := x3.cell h2
    replace h3 := x3.cell h3
    replace X := X.trans x3
    clear x3
    rw [F.out]
    go_wp2_with fail
    refine (RValid_c _ _).mono ?_; rintro e w4 ⟨rfl, x5⟩
    replace h0 := x5.cell h0
    replace h1 := x5.cell h1
    replace h2 := x5.cell h2
    replace h3 := x5.cell h3
    replace X := X.trans x5
    clear x5
    rw [V.out]
    go_wp2_with fail
    refine (LC.out _).mono ?_; rintro e w6 ⟨rfl, x7⟩
    replace h0 := x7.cell h0
    replace h1 := x7.cell h1
    replace h2 := x7.cell h2
    replace h3 := x7.cell h3
    replace X := X.trans x7
    clear x7
    rw [O.out]
    have ha := HA.out.ext X
    have h0b := ((Ext.refl w6).alloc (.cells #[.int .u64 p] 29)).cell h0
    have h1b := ((Ext.refl w6).alloc (.cells #[.int .u64 p] 29)).cell h1
    have h2b := ((Ext.refl w6).alloc (.cells #[.int .u64 p] 29)).cell h2
    have h3b := ((Ext.refl w6).alloc (.cells #[.int .u64 p] 29)).cell h3
    go_wp2_with fail
    refine (H1.out _ (ha.ext ((Ext.refl _).alloc _))).mono ?_; rintro e w10 ⟨v, rfl, o9, x8⟩
    obtain ⟨r1_a, r1_c, rfl, _, _, r1⟩ := o9.form
    have hc := x8.boxCell
    replace h0 := x8.box.cell h0
    replace h1 := x8.box.cell h1
    replace h2 := x8.box.cell h2
    replace h3 := x8.box.cell h3
    replace ha := ha.ext x8.box
    replace X := X.trans x8.box
    clear x8 o9 h0b h1b h2b h3b
    go_wp2_with fail
    refine (H2.out _ _ _ r1).mono ?_; rintro e w11 ⟨v, rfl, o13, x12⟩
    obtain ⟨r2_a, r2_c, rfl, _, _, r2⟩ := o13.form
    replace h0 := x12.cell h0
    replace h1 := x12.cell h1
    replace h2 := x12.cell h2
    replace h3 := x12.cell h3
    replace ha := ha.ext x12
    replace r1 := r1.ext x12
    replace hc := x12.cell hc
    replace X := X.trans x12
    clear x12 o13
    go_wp2_with fail
    refine (H3.out _ ha).mono ?_; rintro e w14 ⟨v, rfl, o16, x15⟩
    obtain ⟨r3_a, r3_c, rfl, _, _, r3⟩ := o16.form
    replace h0 := x15.cell h0
    replace h1 := x15.cell h1
    replace h2 := x15.cell h2
    replace h3 := x15.cell h3
    replace ha := ha.ext x15
    replace r1 := r1.ext x15
    replace hc := x15.cell hc
    replace r2 := r2.ext x15
    replace X := X.trans x15
    clear x15 o16
    go_wp2_with fail
    refine (H4.out _ _ _ r3).mono ?_; rintro e w17 ⟨v, rfl, o19, x18⟩
    obtain ⟨r4_a, r4_c, rfl, _, _, r4⟩ := o19.form
    replace h0 := x18.cell h0
    replace h1 := x18.cell h1
    replace h2 := x18.cell h2
    replace h3 := x18.cell h3
    replace ha := ha.ext x18
    replace r1 := r1.ext x18
    replace hc := x18.cell hc
    replace r2 := r2.ext x18
    replace r3 := r3.ext x18
    replace X := X.trans x18
    clear x18 o19
    go_wp2_with fail
    refine (H5.out _ ha).mono ?_; rintro e w20 ⟨v, rfl, o22, x21⟩
    obtain ⟨r5_a, r5_c, rfl, _, _, r5⟩ := o22.form
    replace h0 := x21.cell h0
    replace h1 := x21.cell h1
    replace h2 := x21.cell h2
    replace h3 := x21.cell h3
    replace ha := ha.ext x21
    replace r1 := r1.ext x21
    replace hc := x21.cell hc
    replace r2 := r2.ext x21
    replace r3 := r3.ext x21
    replace r4 := r4.ext x21
    replace X := X.trans x21
    clear x21 o22
    go_wp2_with fail
    refine (same4n R _ _ _ _ _ _ rfl r2 r5 (by have := LR.out; omega)).mono ?_; rintro e w23 ⟨rfl, x24⟩
    replace h0 := x24.cell h0
    replace h1 := x24.cell h1
    replace h2 := x24.cell h2
    replace h3 := x24.cell h3
    replace ha := ha.ext x24
    replace r1 := r1.ext x24
    replace hc := x24.cell hc
    replace r2 := r2.ext x24
    replace r3 := r3.ext x24
    replace r4 := r4.ext x24
    replace r5 := r5.ext x24
    replace X := X.trans x24
    clear x24
    go_wp2_with fail
    refine (same4n R _ _ _ _ _ _ rfl r4 r5 (by have := LR.out; omega)).mono ?_; rintro e w25 ⟨rfl, x26⟩
    replace h0 := x26.cell h0
    replace h1 := x26.cell h1
    replace h2 := x26.cell h2
    replace h3 := x26.cell h3
    replace ha := ha.ext x26
    replace r1 := r1.ext x26
    replace hc := x26.cell hc
    replace r2 := r2.ext x26
    replace r3 := r3.ext x26
    replace r4 := r4.ext x26
    replace r5 := r5.ext x26
    replace X := X.trans x26
    clear x26
    go_wp2_with fail
    refine (H6.out _ ha).mono ?_; rintro e w27 ⟨v, rfl, o29, x28⟩
    obtain ⟨r6_a, r6_c, rfl, _, _, r6⟩ := o29.form
    replace h0 := x28.cell h0
    replace h1 := x28.cell h1
    replace h2 := x28.cell h2
    replace h3 := x28.cell h3
    replace ha := ha.ext x28
    replace r1 := r1.ext x28
    replace hc := x28.cell hc
    replace r2 := r2.ext x28
    replace r3 := r3.ext x28
    replace r4 := r4.ext x28
    replace r5 := r5.ext x28
    replace X := X.trans x28
    clear x28 o29
    go_wp2_with fail
    refine (H7.out _ _ _ r6).mono ?_; rintro e w30 ⟨v, rfl, o32, x31⟩
    obtain ⟨r7_a, r7_c, rfl, _, _, r7⟩ := o32.form
    replace h0 := x31.cell h0
    replace h1 := x31.cell h1
    replace h2 := x31.cell h2
    replace h3 := x31.cell h3
    replace ha := ha.ext x31
    replace r1 := r1.ext x31
    replace hc := x31.cell hc
    replace r2 := r2.ext x31
    replace r3 := r3.ext x31
    replace r4 := r4.ext x31
    replace r5 := r5.ext x31
    replace r6 := r6.ext x31
    replace X := X.trans x31
    clear x31 o32
    go_wp2_with fail
    refine (same4n R _ _ _ _ _ _ rfl r7 r5 (by have := LR.out; omega)).mono ?_; rintro e w33 ⟨rfl, x34⟩
    replace h0 := x34.cell h0
    replace h1 := x34.cell h1
    replace h2 := x34.cell h2
    replace h3 := x34.cell h3
    replace ha := ha.ext x34
    replace r1 := r1.ext x34
    replace hc := x34.cell hc
    replace r2 := r2.ext x34
    replace r3 := r3.ext x34
    replace r4 := r4.ext x34
    replace r5 := r5.ext x34
    replace r6 := r6.ext x34
    replace r7 := r7.ext x34
    replace X := X.trans x34
    clear x34
    go_wp2_with fail
    go_ret
    exact ⟨rfl, X⟩
end Go.Proofs.Ytcnbinjoeilfgaa
