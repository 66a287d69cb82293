/- The document's Contains. -/
import Derived.Test.YtgnngifnoaagjaaGD
namespace Go.Proofs.Ytgnngifnoaagjaa
open Go.RowKit

/-- Rows of the table of order r at positions from q on, of the order before at those below q. -/
def ddQ (p : Nat) (X D : Nat → Nat) (r q t : Nat) : Nat := if t < q then ddO p X D (r - 1) t else ddO p X D r t
theorem ddQ_step {p : Nat} {X D : Nat → Nat} {r j N : Nat} (h1 : 1 ≤ r) (h2 : r ≤ j) (h3 : j < N) :
    (tab N (ddQ p X D r (j + 1))).set j (fmul p (fsub p (ddO p X D (r - 1) j) (ddO p X D (r - 1) (j - 1))) (finv p (fsub p (X j) (X (j - r))))) = tab N (ddQ p X D r j) := by
  apply List.ext_getElem?
  intro i
  rw [List.getElem?_set]
  obtain ⟨o, rfl⟩ : ∃ o, r = o + 1 := ⟨r - 1, by omega⟩
  by_cases hi : i < N
  · by_cases e : j = i
    · subst e
      rw [if_pos rfl, if_pos (by rw [tab_len]; exact hi)]
      unfold tab
      simp [hi, ddQ, ddO, h2]
    · rw [if_neg e]
      unfold tab
      simp only [List.getElem?_map, List.getElem?_range hi, Option.map_some, ddQ]
      by_cases hlt : i < j
      · rw [if_pos (by omega), if_pos hlt]
      · rw [if_neg (by omega), if_neg hlt]
  · have hn : ∀ F : Nat → Nat, (tab N F)[i]? = none := fun F => List.getElem?_eq_none (by rw [tab_len]; omega)
    rw [hn, hn]
    split
    · rw [if_neg (by rw [tab_len]; omega)]
    · rfl
def ORel (p : Nat) (X D : Nat → Nat) (N g c : Nat) (w1 : World) (s : Value) (wr : World) : Prop :=
  ∃ r : Nat, s = .int .i64 r ∧ 1 ≤ r ∧ r ≤ N ∧ Arr wr g (tab N (ddO p X D (r - 1))) c ∧ Ext w1 wr
def NRel (p : Nat) (X D : Nat → Nat) (N r g c : Nat) (w1 : World) (s : Value) (wr : World) : Prop :=
  ∃ q : Nat, s = .int .i64 ((q : Int) - 1) ∧ r ≤ q ∧ q ≤ N ∧ Arr wr g (tab N (ddQ p X D r q)) c ∧ Ext w1 wr
def KRel (E : List Nat) (N K : Nat) (w1 : World) (s : Value) (wr : World) : Prop :=
  ∃ t : Nat, s = .int .i64 t ∧ K ≤ t ∧ t ≤ N ∧ (∀ i, i < t → K ≤ i → E.getD i 0 = 0) ∧ Ext w1 wr

set_option maxRecDepth 100000 in
set_option maxHeartbeats 4000000 in
theorem RContains_c (p : Nat) (n k : Int) (l : List Nat) (a : Option Addr) (c : Nat) (w : World) (ha : Rd w a l) (hn : n ≤ 9223372036854775807) (hn2 : -9223372036854775808 ≤ n) :
    Calls Try.prog 30 #[.agg #[.int .u64 p, .int .i64 n, .int .i64 k], .slice a l.length c] w fun e w' => e = .returned (.bool (rCon p n k l)) ∧ Ext w w' := by
  have HA := Lib.hid ha
  clear ha
  have VC := fun w' => RCValid_c p n k w' hn hn2
  have PC := fun w' => RCPoints_c p n k w' hn hn2
  have h0 : (w.alloc (.cells #[.int .u64 p, .int .i64 n, .int .i64 k] 24)).cell? ⟨w.heap.size, 0, none⟩ = some (.int .u64 p) := by simp
  have h1 : (w.alloc (.cells #[.int .u64 p, .int .i64 n, .int .i64 k] 24)).cell? ⟨w.heap.size, 1, none⟩ = some (.int .i64 n) := by simp
  have h2 : (w.alloc (.cells #[.int .u64 p, .int .i64 n, .int .i64 k] 24)).cell? ⟨w.heap.size, 2, none⟩ = some (.int .i64 k) := by simp
  cases hc : cval p n k
  case false =>
    have E : Hid (rCon p n k l = false) := Lib.hid (by unfold rCon; rw [hc]; rfl)
    rw [hc] at VC
    have HVC := Lib.hid VC
    have HPC := Lib.hid PC
    clear VC PC hc
    go_enter Try.func30, Try.ntmps30
    go_wp2_with fail
    refine (HPC.out _).mono ?_; rintro e w1 ⟨v, rfl, o1, x1⟩
    obtain ⟨aX, cX, rfl, _, _, rX⟩ := o1.form
    replace h0 := x1.cell h0
    replace h1 := x1.cell h1
    replace h2 := x1.cell h2
    have X := x1.box
    clear o1 x1
    go_wp2_with fail
    refine (HVC.out _).mono ?_; rintro e w2 ⟨rfl, x2⟩
    replace h0 := x2.cell h0
    replace h1 := x2.cell h1
    replace h2 := x2.cell h2
    replace X := X.trans x2
    replace rX := rX.ext x2
    clear x2
    go_wp2_with fail
    go_ret
    exact ⟨by rw [E.out]; rfl, X⟩
  rw [hc] at VC
  have HVC := Lib.hid VC
  clear VC
  by_cases hl : (l.length : Int) = n
  case neg =>
    have HPC := Lib.hid PC
    have t1 : ((l.length : Int) != n) = true := bne_iff_ne.2 hl
    have E : Hid (rCon p n k l = false) := Lib.hid (by unfold rCon; rw [decide_eq_false hl, Bool.false_and, Bool.and_false])
    clear hc hl PC
    go_enter Try.func30, Try.ntmps30
    go_wp2_with fail
    refine (HPC.out _).mono ?_; rintro e w1 ⟨v, rfl, o1, x1⟩
    obtain ⟨aX, cX, rfl, _, _, rX⟩ := o1.form
    replace h0 := x1.cell h0
    replace h1 := x1.cell h1
    replace h2 := x1.cell h2
    have X := x1.box
    clear o1 x1
    go_wp2_with fail
    refine (HVC.out _).mono ?_; rintro e w2 ⟨rfl, x2⟩
    replace h0 := x2.cell h0
    replace h1 := x2.cell h1
    replace h2 := x2.cell h2
    replace X := X.trans x2
    replace rX := rX.ext x2
    clear x2
    go_wp2_with fail
    go_ret
    exact ⟨by rw [E.out]; rfl, X⟩
  have t1 : ((l.length : Int) != n) = false := by rw [hl]; simp
  obtain ⟨N, K, hN, hK, hN2, hK1, hKN⟩ : ∃ N K : Nat, n = (N : Int) ∧ k = (K : Int) ∧ N ≤ 256 ∧ 1 ≤ K ∧ K ≤ N := by
    obtain ⟨_, e, K, N, he, hN, h1, h2, h3, h4, _⟩ := cval_spec hc
    exact ⟨N, K, h1, h2, by rw [hN]; exact Nat.pow_le_pow_right (n := 2) (by omega) he, h3, h4⟩
  have hl2 : l.length = N := by omega
  have hnN : n.toNat = N := by omega
  have hkK : k.toNat = K := by omega
  have hPl : (cpts p n k).length = N := by unfold cpts; rw [if_pos hc, tab_len, hnN]
  have E0 : rCon p n k l = decide (∀ t, t < N → K ≤ t → ddO p (fun i => (cpts p n k).getD i 0) (fun i => fred p (l.getD i 0)) (N - 1) t = 0) := by
    unfold rCon; rw [decide_eq_true hl, hc, hnN, hkK]; rfl
  have RC := fun w' (h : Rd w' a l) => RReduced6_c p l a c w' h (by omega)
  rw [← tab_map l (fred p), hl2] at RC
  obtain ⟨P, hP⟩ : ∃ P, P = cpts p n k := ⟨_, rfl⟩
  rw [← hP] at PC E0 hPl
  obtain ⟨XF, hXF⟩ : ∃ XF : Nat → Nat, XF = fun i => P.getD i 0 := ⟨_, rfl⟩
  obtain ⟨DF, hDF⟩ : ∃ DF : Nat → Nat, DF = fun i => fred p (l.getD i 0) := ⟨_, rfl⟩
  have HXF : Hid (∀ i, P.getD i 0 = XF i) := Lib.hid (fun i => by rw [hXF])
  rw [← hXF, ← hDF] at E0
  rw [← hDF] at RC
  have HRC : Hid (∀ w', Rd w' a l → Calls Try.prog 29 #[.int .u64 p, .slice a l.length c] w' (SlPost w' (tab N (ddO p XF DF 0)))) := Lib.hid (by rw [hl2]; exact RC)
  have E := Lib.hid E0
  have HPC := Lib.hid PC
  have HPL := Lib.hid hPl
  have HN := Lib.hid hN
  have HK := Lib.hid hK
  have hN1 : 1 ≤ N := by omega
  have q3 : n ≤ 256 := by omega
  have q4 : 1 ≤ n := by omega
  have q5 : k ≤ 256 := by omega
  have q6 : 1 ≤ k := by omega
  clear PC RC E0 hXF hDF hP hPl hnN hkK hl2 hl hc hN hK
  go_enter Try.func30, Try.ntmps30
  go_wp2_with fail
  refine (HPC.out _).mono ?_; rintro e w1 ⟨v, rfl, o1, x1⟩
  obtain ⟨aX, cX, rfl, _, _, rX⟩ := o1.form
  replace h0 := x1.cell h0
  replace h1 := x1.cell h1
  replace h2 := x1.cell h2
  have X := x1.box
  clear o1 x1
  go_wp2_with fail
  refine (HVC.out _).mono ?_; rintro e w2 ⟨rfl, x2⟩
  replace h0 := x2.cell h0
  replace h1 := x2.cell h1
  replace h2 := x2.cell h2
  replace X := X.trans x2
  replace rX := rX.ext x2
  clear x2
  go_wp2_with fail
  refine (HRC.out _ (HA.out.ext X)).mono ?_; rintro e w3 ⟨v, rfl, o3, x3⟩
  obtain ⟨g, cD, hvD, hg, _, a3⟩ := o3.arr (by rw [tab_len]; omega)
  rw [tab_len] at hvD
  subst hvD
  have HA3 := Lib.hid a3
  have HX3 := Lib.hid x3
  have RX := Lib.hid rX
  clear o3 a3 x3 rX
  go_wp2_with fail
  go_loopw [7] (ORel p XF DF N g cD w2) (fun i _ => N - (intOf i).toNat)
  case atStart => exact ⟨1, rfl, Nat.le_refl _, by omega, HA3.out, HX3.out⟩
  case round =>
    obtain ⟨r, rfl, hr1, hr2, ag, hext⟩ := hrel
    have k0 := hext.cell h0
    have k1 := hext.cell h1
    have k2 := hext.cell h2
    have HAG := Lib.hid ag
    have HEX := Lib.hid hext
    clear ag hext
    by_cases hlt : r < N
    · have t2 : decide ((r : Int) < n) = true := decide_eq_true (by rw [HN.out]; omega)
      go_wp2_with fail
      go_loopw [8] (NRel p XF DF N r g cD w2) (fun i _ => (intOf i + 1).toNat)
      case atStart => exact ⟨N, by rw [HN.out], by omega, Nat.le_refl _, by rw [tab_congr (G := ddO p XF DF (r - 1)) (fun t ht => by unfold ddQ; rw [if_pos ht])]; exact HAG.out, HEX.out⟩
      case round =>
        obtain ⟨q, rfl, hq1, hq2, ag, hext⟩ := hrel
        obtain ⟨j, hj⟩ : ∃ j, q = j + 1 := ⟨q - 1, by omega⟩
        have hjq : (q : Int) - 1 = (j : Int) := by omega
        rw [hjq]
        subst hj
        replace k0 := hext.cell h0
        replace k1 := hext.cell h1
        replace k2 := hext.cell h2
        by_cases hrj : r ≤ j
        · obtain ⟨s, hs⟩ : ∃ s : Nat, s = j - r := ⟨_, rfl⟩
          obtain ⟨u, hu⟩ : ∃ u : Nat, u = j - 1 := ⟨_, rfl⟩
          have hjs : (j : Int) - (r : Int) = (s : Int) := by omega
          have hju : (j : Int) - 1 = (u : Int) := by omega
          obtain ⟨gX, oX, rfl, hcX⟩ := RX.out.at (by rw [HPL.out]; omega)
          have cj := hext.cell (hcX j (by rw [HPL.out]; omega))
          have cs := hext.cell (hcX s (by rw [HPL.out]; omega))
          have dj := ag.at (i := j) (by rw [tab_len]; omega)
          have du := ag.at (i := u) (by rw [tab_len]; omega)
          rw [tab_get _ _ _ (by omega)] at dj du
          rw [HXF.out] at cj cs
          have hst := ddQ_step (p := p) (X := XF) (D := DF) (r := r) (j := j) (N := N) hr1 hrj (by omega)
          rw [← hs, ← hu] at hst
          have ej : ddQ p XF DF r (j + 1) j = ddO p XF DF (r - 1) j := by unfold ddQ; rw [if_pos (by omega)]
          have eu : ddQ p XF DF r (j + 1) u = ddO p XF DF (r - 1) u := by unfold ddQ; rw [if_pos (by omega)]
          rw [ej] at dj
          rw [eu] at du
          have hjN : j < P.length := by rw [HPL.out]; omega
          have hsN : s < P.length := by rw [HPL.out]; omega
          have hjN2 : j < N := by omega
          have huN : u < N := by omega
          obtain ⟨xj, hxj⟩ : ∃ x, x = XF j := ⟨_, rfl⟩
          obtain ⟨xs, hxs⟩ : ∃ x, x = XF s := ⟨_, rfl⟩
          obtain ⟨yj, hyj⟩ : ∃ x, x = ddO p XF DF (r - 1) j := ⟨_, rfl⟩
          obtain ⟨yu, hyu⟩ : ∃ x, x = ddO p XF DF (r - 1) u := ⟨_, rfl⟩
          rw [← hxj] at cj hst
          rw [← hxs] at cs hst
          rw [← hyj] at dj hst
          rw [← hyu] at du hst
          have HAG2 := Lib.hid ag
          have HEX2 := Lib.hid hext
          have HST := Lib.hid hst
          clear ag hext hst ej eu hxj hxs hyj hyu hcX hs hu hjq
          go_wp2_with fail
          refine region_facts [[], [(0, 41)], [], [(2, 43)], [], [], [(4, 45), (5, 46)], [(6, 47)], [], [], [], [(9, 50), (10, 51)], [(8, 49), (11, 52)], [(12, 53)], [(3, 44), (7, 48), (13, 54)], [(1, 42), (14, 55)], [(15, 56)]] [some 41, some 42, some 43, some 44, some 45, some 46, some 47, some 48, some 49, some 50, some 51, some 52, some 53, some 54, some 55, some 56, some 9] (by kernel_rfl) (by kernel_rfl) ?_
          with_reducible apply From.eq
          · intro w' hx; have k0x := hx.cell k0; have cjx := hx.cell cj; have csx := hx.cell cs; (try dsimp only [List.nil_append, List.cons_append]); dsimp only [DepsV, fat, eqF]; go_wp2; exact OpPost.some _ rfl rfl (Ext.refl _) rfl
          with_reducible apply From.eq
          · intro w' hx; have k0x := hx.cell k0; have cjx := hx.cell cj; have csx := hx.cell cs; (try dsimp only [List.nil_append, List.cons_append]); dsimp only [DepsV, fat, eqF]; rintro _ rfl; go_wp2; exact OpPost.some _ rfl rfl (Ext.refl _) rfl
          with_reducible apply From.eq
          · intro w' hx; have k0x := hx.cell k0; have cjx := hx.cell cj; have csx := hx.cell cs; (try dsimp only [List.nil_append, List.cons_append]); dsimp only [DepsV, fat, eqF]; go_wp2; exact OpPost.some _ rfl rfl (Ext.refl _) rfl
          with_reducible apply From.eq
          · intro w' hx; have k0x := hx.cell k0; have cjx := hx.cell cj; have csx := hx.cell cs; (try dsimp only [List.nil_append, List.cons_append]); dsimp only [DepsV, fat, eqF]; rintro _ rfl; go_wp2; exact OpPost.some _ rfl rfl (Ext.refl _) rfl
          with_reducible apply From.eq
          · intro w' hx; have k0x := hx.cell k0; have cjx := hx.cell cj; have csx := hx.cell cs; (try dsimp only [List.nil_append, List.cons_append]); dsimp only [DepsV, fat, eqF]; go_wp2; exact OpPost.some _ rfl rfl (Ext.refl _) rfl
          with_reducible apply From.eq
          · intro w' hx; have k0x := hx.cell k0; have cjx := hx.cell cj; have csx := hx.cell cs; (try dsimp only [List.nil_append, List.cons_append]); dsimp only [DepsV, fat, eqF]; go_wp2; exact OpPost.some _ rfl rfl (Ext.refl _) rfl
          with_reducible apply From.eq
          · intro w' hx; have k0x := hx.cell k0; have cjx := hx.cell cj; have csx := hx.cell cs; (try dsimp only [List.nil_append, List.cons_append]); dsimp only [DepsV, fat, eqF]; rintro _ rfl _ rfl; go_wp2; exact OpPost.some _ rfl rfl (Ext.refl _) rfl
          with_reducible apply From.eq
          · intro w' hx; have k0x := hx.cell k0; have cjx := hx.cell cj; have csx := hx.cell cs; (try dsimp only [List.nil_append, List.cons_append]); dsimp only [DepsV, fat, eqF]; rintro _ rfl; go_wp2; exact OpPost.some _ rfl rfl (Ext.refl _) rfl
          with_reducible apply From.eq
          · intro w' hx; have k0x := hx.cell k0; have cjx := hx.cell cj; have csx := hx.cell cs; (try dsimp only [List.nil_append, List.cons_append]); dsimp only [DepsV, fat, eqF]; go_wp2; exact OpPost.some _ rfl rfl (Ext.refl _) rfl
          with_reducible apply From.eq
          · intro w' hx; have k0x := hx.cell k0; have cjx := hx.cell cj; have csx := hx.cell cs; (try dsimp only [List.nil_append, List.cons_append]); dsimp only [DepsV, fat, eqF]; go_wp2; exact OpPost.some _ rfl rfl (Ext.refl _) rfl
          with_reducible apply From.eq
          · intro w' hx; have k0x := hx.cell k0; have cjx := hx.cell cj; have csx := hx.cell cs; (try dsimp only [List.nil_append, List.cons_append]); dsimp only [DepsV, fat, eqF]; go_wp2; exact OpPost.some _ rfl rfl (Ext.refl _) rfl
          with_reducible apply From.eq
          · intro w' hx; have k0x := hx.cell k0; have cjx := hx.cell cj; have csx := hx.cell cs; (try dsimp only [List.nil_append, List.cons_append]); dsimp only [DepsV, fat, eqF]; rintro _ rfl _ rfl; go_wp2; exact OpPost.some _ rfl rfl (Ext.refl _) rfl
          with_reducible apply From.eq
          · intro w' hx; have k0x := hx.cell k0; have cjx := hx.cell cj; have csx := hx.cell cs; (try dsimp only [List.nil_append, List.cons_append]); dsimp only [DepsV, fat, eqF]; rintro _ rfl _ rfl; go_wp2; exact OpPost.some _ rfl rfl (Ext.refl _) rfl
          with_reducible apply From.eq
          · intro w' hx; have k0x := hx.cell k0; have cjx := hx.cell cj; have csx := hx.cell cs; (try dsimp only [List.nil_append, List.cons_append]); dsimp only [DepsV, fat, eqF]; rintro _ rfl; go_wp2; exact OpPost.some _ rfl rfl (Ext.refl _) rfl
          with_reducible apply From.eq
          · intro w' hx; have k0x := hx.cell k0; have cjx := hx.cell cj; have csx := hx.cell cs; (try dsimp only [List.nil_append, List.cons_append]); dsimp only [DepsV, fat, eqF]; rintro _ rfl _ rfl _ rfl; go_wp2_with (go_at_call 52; refine (RSub_c _ _ _ _).mono ?_; rintro e w2 ⟨rfl, hb2⟩); exact OpPost.some _ rfl rfl hb2 rfl
          with_reducible apply From.eq
          · intro w' hx; have k0x := hx.cell k0; have cjx := hx.cell cj; have csx := hx.cell cs; (try dsimp only [List.nil_append, List.cons_append]); dsimp only [DepsV, fat, eqF]; rintro _ rfl _ rfl; go_wp2_with (go_at_call 51; refine (RInv_c _ _ _).mono ?_; rintro e w2 ⟨rfl, hb2⟩); exact OpPost.some _ rfl rfl hb2 rfl
          with_reducible apply From.eq
          · intro w' hx; have k0x := hx.cell k0; have cjx := hx.cell cj; have csx := hx.cell cs; (try dsimp only [List.nil_append, List.cons_append]); dsimp only [DepsV, fat, eqF]; rintro _ rfl; go_wp2; exact OpPost.some _ rfl rfl (Ext.refl _) rfl
          with_reducible refine From.fin ?_
          intro w' hx
          (try dsimp only [List.nil_append, List.cons_append]); dsimp only [EndV, eqF]; rintro _ rfl _ rfl _ rfl _ rfl _ rfl _ rfl _ rfl _ rfl _ rfl _ rfl _ rfl _ rfl _ rfl _ rfl _ rfl _ rfl _ rfl; simp only [Act.put, List.setIfInBounds_toArray, List.set_cons_zero, List.set_cons_succ]
          replace k0 := hx.cell k0
          replace k1 := hx.cell k1
          replace k2 := hx.cell k2
          replace dj := hx.cell dj
          replace du := hx.cell du
          have HAG3 := Lib.hid (HAG2.out.ext hx)
          have HEX3 := Lib.hid (HEX2.out.trans hx)
          clear hx cj cs
          obtain ⟨wb, rfl⟩ : ∃ q : World, q = w' := ⟨_, rfl⟩
          go_wp2_with fail
          refine region_facts [[], [], [], [(2, 59)], [], [(4, 61)], [], [], [(6, 63), (7, 64)], [(8, 65)], [], [], [(11, 68)], [(10, 67), (12, 69)], [(13, 70)], [(5, 62), (9, 66), (14, 71)], [], [(3, 60), (15, 72), (16, 73)], [(0, 57), (1, 58)]] [some 57, some 58, some 59, some 60, some 61, some 62, some 63, some 64, some 65, some 66, some 67, some 68, some 69, some 70, some 71, some 72, some 73, some 74, some 75] (by kernel_rfl) (by kernel_rfl) ?_
          with_reducible apply From.eq
          · intro w' hx; have k0x := hx.cell k0; have djx := hx.cell dj; have dux := hx.cell du; (try dsimp only [List.nil_append, List.cons_append]); dsimp only [DepsV, fat, eqF]; go_wp2; exact OpPost.some _ rfl rfl (Ext.refl _) rfl
          with_reducible apply From.eq
          · intro w' hx; have k0x := hx.cell k0; have djx := hx.cell dj; have dux := hx.cell du; (try dsimp only [List.nil_append, List.cons_append]); dsimp only [DepsV, fat, eqF]; go_wp2; exact OpPost.some _ rfl rfl (Ext.refl _) rfl
          with_reducible apply From.eq
          · intro w' hx; have k0x := hx.cell k0; have djx := hx.cell dj; have dux := hx.cell du; (try dsimp only [List.nil_append, List.cons_append]); dsimp only [DepsV, fat, eqF]; go_wp2; exact OpPost.some _ rfl rfl (Ext.refl _) rfl
          with_reducible apply From.eq
          · intro w' hx; have k0x := hx.cell k0; have djx := hx.cell dj; have dux := hx.cell du; (try dsimp only [List.nil_append, List.cons_append]); dsimp only [DepsV, fat, eqF]; rintro _ rfl; go_wp2; exact OpPost.some _ rfl rfl (Ext.refl _) rfl
          with_reducible apply From.eq
          · intro w' hx; have k0x := hx.cell k0; have djx := hx.cell dj; have dux := hx.cell du; (try dsimp only [List.nil_append, List.cons_append]); dsimp only [DepsV, fat, eqF]; go_wp2; exact OpPost.some _ rfl rfl (Ext.refl _) rfl
          with_reducible apply From.eq
          · intro w' hx; have k0x := hx.cell k0; have djx := hx.cell dj; have dux := hx.cell du; (try dsimp only [List.nil_append, List.cons_append]); dsimp only [DepsV, fat, eqF]; rintro _ rfl; go_wp2; exact OpPost.some _ rfl rfl (Ext.refl _) rfl
          with_reducible apply From.eq
          · intro w' hx; have k0x := hx.cell k0; have djx := hx.cell dj; have dux := hx.cell du; (try dsimp only [List.nil_append, List.cons_append]); dsimp only [DepsV, fat, eqF]; go_wp2; exact OpPost.some _ rfl rfl (Ext.refl _) rfl
          with_reducible apply From.eq
          · intro w' hx; have k0x := hx.cell k0; have djx := hx.cell dj; have dux := hx.cell du; (try dsimp only [List.nil_append, List.cons_append]); dsimp only [DepsV, fat, eqF]; go_wp2; exact OpPost.some _ rfl rfl (Ext.refl _) rfl
          with_reducible apply From.eq
          · intro w' hx; have k0x := hx.cell k0; have djx := hx.cell dj; have dux := hx.cell du; (try dsimp only [List.nil_append, List.cons_append]); dsimp only [DepsV, fat, eqF]; rintro _ rfl _ rfl; go_wp2; exact OpPost.some _ rfl rfl (Ext.refl _) rfl
          with_reducible apply From.eq
          · intro w' hx; have k0x := hx.cell k0; have djx := hx.cell dj; have dux := hx.cell du; (try dsimp only [List.nil_append, List.cons_append]); dsimp only [DepsV, fat, eqF]; rintro _ rfl; go_wp2; exact OpPost.some _ rfl rfl (Ext.refl _) rfl
          with_reducible apply From.eq
          · intro w' hx; have k0x := hx.cell k0; have djx := hx.cell dj; have dux := hx.cell du; (try dsimp only [List.nil_append, List.cons_append]); dsimp only [DepsV, fat, eqF]; go_wp2; exact OpPost.some _ rfl rfl (Ext.refl _) rfl
          with_reducible apply From.eq
          · intro w' hx; have k0x := hx.cell k0; have djx := hx.cell dj; have dux := hx.cell du; (try dsimp only [List.nil_append, List.cons_append]); dsimp only [DepsV, fat, eqF]; go_wp2; exact OpPost.some _ rfl rfl (Ext.refl _) rfl
          with_reducible apply From.eq
          · intro w' hx; have k0x := hx.cell k0; have djx := hx.cell dj; have dux := hx.cell du; (try dsimp only [List.nil_append, List.cons_append]); dsimp only [DepsV, fat, eqF]; rintro _ rfl; go_wp2; exact OpPost.some _ rfl rfl (Ext.refl _) rfl
          with_reducible apply From.eq
          · intro w' hx; have k0x := hx.cell k0; have djx := hx.cell dj; have dux := hx.cell du; (try dsimp only [List.nil_append, List.cons_append]); dsimp only [DepsV, fat, eqF]; rintro _ rfl _ rfl; go_wp2; exact OpPost.some _ rfl rfl (Ext.refl _) rfl
          with_reducible apply From.eq
          · intro w' hx; have k0x := hx.cell k0; have djx := hx.cell dj; have dux := hx.cell du; (try dsimp only [List.nil_append, List.cons_append]); dsimp only [DepsV, fat, eqF]; rintro _ rfl; go_wp2; exact OpPost.some _ rfl rfl (Ext.refl _) rfl
          with_reducible apply From.eq
          · intro w' hx; have k0x := hx.cell k0; have djx := hx.cell dj; have dux := hx.cell du; (try dsimp only [List.nil_append, List.cons_append]); dsimp only [DepsV, fat, eqF]; rintro _ rfl _ rfl _ rfl; go_wp2_with (go_at_call 52; refine (RSub_c _ _ _ _).mono ?_; rintro e w2 ⟨rfl, hb2⟩); exact OpPost.some _ rfl rfl hb2 rfl
          with_reducible apply From.eq
          · intro w' hx; have k0x := hx.cell k0; have djx := hx.cell dj; have dux := hx.cell du; (try dsimp only [List.nil_append, List.cons_append]); dsimp only [DepsV, fat, eqF]; go_wp2; exact OpPost.some _ rfl rfl (Ext.refl _) rfl
          with_reducible apply From.eq
          · intro w' hx; have k0x := hx.cell k0; have djx := hx.cell dj; have dux := hx.cell du; (try dsimp only [List.nil_append, List.cons_append]); dsimp only [DepsV, fat, eqF]; rintro _ rfl _ rfl _ rfl; go_wp2_with (go_at_call 46; refine (RMul_c _ _ _ _).mono ?_; rintro e w2 ⟨rfl, hb2⟩); exact OpPost.some _ rfl rfl hb2 rfl
          with_reducible apply From.eq
          · intro w' hx; have k0x := hx.cell k0; have djx := hx.cell dj; have dux := hx.cell du; (try dsimp only [List.nil_append, List.cons_append]); dsimp only [DepsV, fat, eqF]; rintro _ rfl _ rfl; go_wp2; exact OpPost.some _ rfl rfl (Ext.refl _) rfl
          with_reducible refine From.fin ?_
          intro w' hx
          (try dsimp only [List.nil_append, List.cons_append]); dsimp only [EndV, eqF]; rintro _ rfl _ rfl _ rfl _ rfl _ rfl _ rfl _ rfl _ rfl _ rfl _ rfl _ rfl _ rfl _ rfl _ rfl _ rfl _ rfl _ rfl _ rfl _ rfl; simp only [Act.put, List.setIfInBounds_toArray, List.set_cons_zero, List.set_cons_succ]
          have A6 := HAG3.out.ext hx
          have f6 := A6.frozen j
          have d6 := A6.at (i := j) (by rw [tab_len]; exact hjN2)
          have HA6 := Lib.hid A6
          have HEX4 := Lib.hid (HEX3.out.trans hx)
          clear A6
          go_wp2
          go_roundw
          case rel =>
            refine ⟨j, by rw [hju], hrj, by omega, ?_, HEX4.out.setNew hg _⟩
            rw [← HST.out]; exact HA6.out.set j _ (by rw [tab_len]; exact hjN2)
          case measure => simp [intOf]; omega
        · have HEX2 := Lib.hid hext
          have HAG2 : Hid (Arr wr g (tab N (ddO p XF DF (r + 1 - 1))) cD) := Lib.hid (by
            rw [tab_congr (G := ddO p XF DF (r + 1 - 1)) (fun t ht => by
              unfold ddQ
              by_cases h : t < j + 1
              · rw [if_pos h]
                obtain ⟨o, rfl⟩ : ∃ o, r = o + 1 := ⟨r - 1, by omega⟩
                show ddO p XF DF o t = (if o + 1 ≤ t then _ else _)
                rw [if_neg (by omega)]
              · rw [if_neg h]; rfl)] at ag
            exact ag)
          clear ag hext
          go_wp2_with fail
          go_roundw
          case rel => exact ⟨r + 1, by go_num, by omega, by omega, HAG2.out, HEX2.out⟩
          case measure => simp [intOf]; omega
    · have t2 : decide ((r : Int) < n) = false := decide_eq_false (by rw [HN.out]; omega)
      have E2 : Hid (rCon p n k l = decide (∀ t, t < N → K ≤ t → (tab N (ddO p XF DF (r - 1))).getD t 0 = 0)) := Lib.hid (by
        rw [E.out, decide_eq_decide, show N - 1 = r - 1 from by omega]
        exact ⟨fun h t h1 h2 => by rw [tab_get _ _ _ h1]; exact h t h1 h2, fun h t h1 h2 => by have := h t h1 h2; rw [tab_get _ _ _ h1] at this; exact this⟩)
      have ag2 := HAG.out
      have hELl : (tab N (ddO p XF DF (r - 1))).length = N := tab_len _ _
      obtain ⟨EL, hEL⟩ : ∃ EL, EL = tab N (ddO p XF DF (r - 1)) := ⟨_, rfl⟩
      rw [← hEL] at ag2 E2 hELl
      have HAG2 := Lib.hid ag2
      have HELL := Lib.hid hELl
      clear HAG ag2 hEL hELl hlt E
      go_wp2_with fail
      go_loopw [10] (KRel EL N K wr) (fun i _ => N - (intOf i).toNat)
      case atStart => exact ⟨K, by rw [HK.out], Nat.le_refl _, hKN, fun i h1 h2 => absurd h1 (by omega), Ext.refl _⟩
      case round =>
        obtain ⟨t, rfl, htK, htN, hz, hx2⟩ := hrel
        replace k0 := hx2.cell k0
        replace k1 := hx2.cell k1
        replace k2 := hx2.cell k2
        have XX := X.trans (HEX.out.trans hx2)
        have HZ := Lib.hid hz
        by_cases hlt : t < N
        · have t3 : decide ((t : Int) < n) = true := decide_eq_true (by rw [HN.out]; omega)
          have de := hx2.cell (HAG2.out.at (i := t) (by rw [HELL.out]; exact hlt))
          obtain ⟨y, hy⟩ : ∃ y, y = EL.getD t 0 := ⟨_, rfl⟩
          rw [← hy] at de
          have HY := Lib.hid hy
          have HX2 := Lib.hid hx2
          clear hz hy hx2
          by_cases hy0 : y = 0
          · have t4 : ((y : Int) != 0) = false := by rw [hy0]; rfl
            have HY0 := Lib.hid hy0
            clear hy0
            go_wp2_with fail
            go_roundw
            case rel =>
              refine ⟨t + 1, by go_num, by omega, by omega, fun i h1 h2 => ?_, HX2.out⟩
              by_cases e : i = t
              · subst e; rw [← HY.out]; exact HY0.out
              · exact HZ.out i (by omega) h2
            case measure => simp [intOf]; omega
          · have t4 : ((y : Int) != 0) = true := bne_iff_ne.2 (by omega)
            have E3 : Hid (rCon p n k l = false) := Lib.hid (by rw [E2.out]; exact decide_eq_false (fun h => hy0 (by rw [HY.out]; exact h t hlt htK)))
            clear hy0
            go_wp2_with fail
            go_ret
            exact ⟨by rw [E3.out]; rfl, XX⟩
        · have t3 : decide ((t : Int) < n) = false := decide_eq_false (by rw [HN.out]; omega)
          have E3 : Hid (rCon p n k l = true) := Lib.hid (by rw [E2.out]; exact decide_eq_true (fun i h1 h2 => HZ.out i (by omega) h2))
          clear hz
          go_wp2_with fail
          go_ret
          exact ⟨by rw [E3.out]; rfl, XX⟩
end Go.Proofs.Ytgnngifnoaagjaa
