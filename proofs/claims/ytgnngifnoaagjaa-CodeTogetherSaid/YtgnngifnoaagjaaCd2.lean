/- Contracts of package code: Points, words. -/
import Derived.Test.YtgnngifnoaagjaaCd1
namespace Go.Proofs.Ytgnngifnoaagjaa
open Go.RowKit

/-- The points of a code. -/
def cpts (p : Nat) (n k : Int) : List Nat := if cval p n k = true then tab n.toNat (dmK p (gent p) (rootN p n.toNat)) else []
theorem gent_bd {p : Nat} (h : vld p = true) : 0 < gent p ∧ gent p < p := by
  rcases vld_cases h with h | h | h | h | h | h | h <;> subst h <;> decide
theorem gent_mod {p : Nat} (h : vld p = true) : gent p % p = gent p := Nat.mod_eq_of_lt (gent_bd h).2

set_option maxRecDepth 100000 in
set_option maxHeartbeats 2000000 in
theorem CPoints_c (p : Nat) (n k : Int) (w : World) (hn : n ≤ 9223372036854775807) (hn2 : -9223372036854775808 ≤ n) :
    Calls Try.prog 20 #[.agg #[.int .u64 p, .int .i64 n, .int .i64 k]] w (SlPost w (cpts p n k)) := by
  have h0 : (w.alloc (.cells #[.int .u64 p, .int .i64 n, .int .i64 k] 31)).cell? ⟨w.heap.size, 0, none⟩ = some (.int .u64 p) := by simp
  have h1 : (w.alloc (.cells #[.int .u64 p, .int .i64 n, .int .i64 k] 31)).cell? ⟨w.heap.size, 1, none⟩ = some (.int .i64 n) := by simp
  have h2 : (w.alloc (.cells #[.int .u64 p, .int .i64 n, .int .i64 k] 31)).cell? ⟨w.heap.size, 2, none⟩ = some (.int .i64 k) := by simp
  have VC := Lib.hid (fun w' => CValid_c p n k w' hn hn2)
  cases hc : cval p n k
  case false =>
    have C := Lib.hid hc
    have E : Hid (cpts p n k = []) := Lib.hid (by unfold cpts; rw [hc]; rfl)
    clear hc
    go_enter Try.func20, Try.ntmps20
    go_wp2_with fail
    refine (VC.out _).mono ?_; rintro e w1 ⟨rfl, x1⟩; rw [C.out]
    go_wp2_with fail
    go_ret
    exact ⟨_, rfl, by rw [E.out]; exact Own.nil _ _, x1.box⟩
  have C := Lib.hid hc
  obtain ⟨hv, e, K, N, he, hN, rfl, rfl, hK1, hK2, hNp, hd, ho⟩ := cval_spec hc
  have hN2 : N ≤ 256 := by rw [hN]; exact Nat.pow_le_pow_right (n := 2) (by omega) he
  have hRB : rootB p N = true := ((cval_iff _ _ _).1 hc).2.2.2.1
  have RC := fun w' => Root_c p N w' hn hn2
  have hrV : rootV p (N : Int) = rootN p N := by unfold rootV; rw [hRB, if_pos rfl, Int.toNat_natCast]
  unfold RootPost at RC
  rw [hRB, hrV] at RC
  have E : Hid (cpts p N K = tab N (dmK p (gent p) (rootN p N))) := Lib.hid (by unfold cpts; rw [hc, if_pos rfl, Int.toNat_natCast])
  obtain ⟨r, hr⟩ : ∃ r, r = rootN p N := ⟨_, rfl⟩
  rw [← hr] at RC E
  have HRC := Lib.hid RC
  have hmk := make_c N N (Nat.le_refl _) (by omega)
  clear hc RC hRB hrV hr hd ho hN
  go_enter Try.func20, Try.ntmps20
  go_wp2_with fail
  refine (VC.out _).mono ?_; rintro e w1 ⟨rfl, x1⟩; rw [C.out]
  replace h1 := x1.cell h1
  replace h0 := x1.cell h0
  have X := x1.box
  clear x1
  have h1b := ((Ext.refl w1).alloc (.cells #[.int .u64 p] 65)).cell h1
  go_wp2_with fail
  refine (HRC.out _).mono ?_; rintro e w2 ⟨rfl, x2⟩
  have hcf := x2.boxCell
  replace h1b := x2.cell h1b
  replace X := X.trans x2.box
  clear x2
  go_wp2_with fail
  refine (Generator_c _ _).mono ?_; rintro e w3 ⟨rfl, x3⟩
  replace hcf := x3.cell hcf
  replace h1b := x3.cell h1b
  replace X := X.trans x3
  clear x3
  obtain ⟨q, hq⟩ : ∃ q, q = gent p := ⟨_, rfl⟩
  rw [← hq] at E
  rw [← hq]
  clear hq
  go_wp2_with fail
  clear hmk
  go_loopw [6, 29] (DRel p q r N w3.heap.size w3) (fun _ i _ => N - (intOf i).toNat)
  case atStart =>
    refine ⟨0, rfl, Nat.zero_le _, rfl, ?_, (Ext.refl _).alloc _⟩
    have := Arr.ofBlk (Blk.new w3 (rowA (List.replicate N 0))) (by simp; omega)
    rw [List.length_replicate] at this
    rw [fill_zero]; exact this
  case round =>
    obtain ⟨j, rfl, hj, rfl, harr, hext⟩ := hrel
    have hc2 := hext.cell hcf
    by_cases hlt : j < N
    · have hst := fill_step (dmK p q r) N j hlt
      have E1 : Hid (dmK p q r (j + 1) = fmul p (dmK p q r j) r) := Lib.hid rfl
      have hfl : j < (fill (dmK p q r) N j).length := by rw [fill_len _ _ _ hj]; exact hlt
      obtain ⟨x, hx0⟩ : ∃ x, x = dmK p q r j := ⟨_, rfl⟩
      obtain ⟨T, hT⟩ : ∃ T, T = fill (dmK p q r) N j := ⟨_, rfl⟩
      rw [← hx0] at hst E1
      rw [← hx0]
      rw [← hT] at hst harr hfl
      have f2 := harr.frozen j
      have c2 := harr.at hfl
      have A2 := harr.set j x hfl
      have HST := Lib.hid hst
      have HA2 := Lib.hid A2
      have hc3 := (hext.setNew (p := ⟨w3.heap.size, j, none⟩) (Nat.le_refl _) (.int .u64 (x : Int))).cell hcf
      clear hx0 hT hst harr hfl A2
      go_wp2_with fail
      refine (Mul_c _ _ _ _).mono ?_; rintro e w4 ⟨rfl, x4⟩
      go_wp2_with fail
      go_roundw
      case rel =>
        refine ⟨j + 1, by go_num, by omega, by rw [E1.out], ?_, (hext.setNew (Nat.le_refl _) _).trans x4⟩
        rw [← HST.out]; exact HA2.out.ext x4
      case measure => simp [intOf]; omega
    · obtain rfl : j = N := by omega
      have HO : Hid (Own wr w.heap.size (.slice (some ⟨w3.heap.size, 0, none⟩) j j) (tab j (dmK p q r))) := Lib.hid (by
        rw [fill_full] at harr
        have := harr.own X.size
        rw [show ((List.range j).map (dmK p q r)).length = j by simp] at this
        exact this)
      clear harr
      go_wp2
      go_ret
      exact ⟨_, rfl, by rw [E.out]; exact HO.out, X.trans hext⟩

def RDRel2 (p s r N : Nat) (w1 : World) (x o i : Value) (wr : World) : Prop :=
  ∃ j : Nat, i = .int .i64 j ∧ j ≤ N ∧ x = .int .u64 (dmK p s r j) ∧ Own wr w1.heap.size o (tab j (dmK p s r)) ∧ Ext w1 wr

set_option maxRecDepth 100000 in
set_option maxHeartbeats 2000000 in
theorem RCPoints_c (p : Nat) (n k : Int) (w : World) (hn : n ≤ 9223372036854775807) (hn2 : -9223372036854775808 ≤ n) :
    Calls Try.prog 21 #[.agg #[.int .u64 p, .int .i64 n, .int .i64 k]] w (SlPost w (cpts p n k)) := by
  have h0 : (w.alloc (.cells #[.int .u64 p, .int .i64 n, .int .i64 k] 24)).cell? ⟨w.heap.size, 0, none⟩ = some (.int .u64 p) := by simp
  have h1 : (w.alloc (.cells #[.int .u64 p, .int .i64 n, .int .i64 k] 24)).cell? ⟨w.heap.size, 1, none⟩ = some (.int .i64 n) := by simp
  have h2 : (w.alloc (.cells #[.int .u64 p, .int .i64 n, .int .i64 k] 24)).cell? ⟨w.heap.size, 2, none⟩ = some (.int .i64 k) := by simp
  have VC := Lib.hid (fun w' => RCValid_c p n k w' hn hn2)
  cases hc : cval p n k
  case false =>
    have C := Lib.hid hc
    have E : Hid (cpts p n k = []) := Lib.hid (by unfold cpts; rw [hc]; rfl)
    clear hc
    go_enter Try.func21, Try.ntmps21
    go_wp2_with fail
    refine (VC.out _).mono ?_; rintro e w1 ⟨rfl, x1⟩; rw [C.out]
    go_wp2_with fail
    go_ret
    exact ⟨_, rfl, by rw [E.out]; exact Own.nil _ _, x1.box⟩
  have C := Lib.hid hc
  obtain ⟨hv, e, K, N, he, hN, rfl, rfl, hK1, hK2, hNp, hd, ho⟩ := cval_spec hc
  have hN2 : N ≤ 256 := by rw [hN]; exact Nat.pow_le_pow_right (n := 2) (by omega) he
  have hRB : rootB p N = true := ((cval_iff _ _ _).1 hc).2.2.2.1
  have RC := fun w' => RRoot_c p N w' hn hn2
  have hrV : rootV p (N : Int) = rootN p N := by unfold rootV; rw [hRB, if_pos rfl, Int.toNat_natCast]
  unfold RootPost at RC
  rw [hRB, hrV] at RC
  have E : Hid (cpts p N K = tab N (dmK p (gent p) (rootN p N))) := Lib.hid (by unfold cpts; rw [hc, if_pos rfl, Int.toNat_natCast])
  obtain ⟨r, hr⟩ : ∃ r, r = rootN p N := ⟨_, rfl⟩
  rw [← hr] at RC E
  have HRC := Lib.hid RC
  clear hc RC hRB hrV hr hd ho hN
  go_enter Try.func21, Try.ntmps21
  go_wp2_with fail
  refine (VC.out _).mono ?_; rintro e w1 ⟨rfl, x1⟩; rw [C.out]
  replace h1 := x1.cell h1
  replace h0 := x1.cell h0
  have X := x1.box
  clear x1
  go_wp2_with fail
  refine (HRC.out _).mono ?_; rintro e w2 ⟨rfl, x2⟩
  replace h1 := x2.cell h1
  replace h0 := x2.cell h0
  replace X := X.trans x2
  clear x2
  go_wp2_with fail
  refine (RGen_c _ _).mono ?_; rintro e w3 ⟨rfl, x3⟩
  replace h1 := x3.cell h1
  replace h0 := x3.cell h0
  replace X := X.trans x3
  clear x3
  obtain ⟨q, hq⟩ : ∃ q, q = gent p := ⟨_, rfl⟩
  rw [← hq] at E
  rw [← hq]
  clear hq
  go_wp2_with fail
  go_loopw [5, 6, 7] (RDRel2 p q r N w3) (fun _ _ i _ => N - (intOf i).toNat)
  case atStart => exact ⟨0, rfl, Nat.zero_le _, rfl, Own.nil _ _, Ext.refl _⟩
  case round =>
    obtain ⟨j, rfl, hj, rfl, ho, hext⟩ := hrel
    have HO := Lib.hid ho
    have g1 := hext.cell h1
    clear ho
    by_cases hlt : j < N
    · have E1 : Hid (dmK p q r (j + 1) = fmul p (dmK p q r j) r) := Lib.hid rfl
      have E2 : Hid (tab (j + 1) (dmK p q r) = tab j (dmK p q r) ++ [dmK p q r j]) := Lib.hid (tab_succ _ _)
      obtain ⟨x, hx0⟩ : ∃ x, x = dmK p q r j := ⟨_, rfl⟩
      rw [← hx0] at E1 E2
      rw [← hx0]
      clear hx0
      go_wp2_with (at_builtin; refine wpList_app1 rfl (.tmp 28) (.tmp 30) rfl w3.heap.size _ _ rfl (HO.out.grow ((Ext.refl _).alloc _)) wr.heap.size x 1 rfl (by simp) (by rw [tab_len]; omega) (Nat.le_trans hext.size (by simp)) ?_; intro v' w4 hown4 hx4 _; replace hx4 := hx4 w3 (hext.alloc _) (Nat.le_refl _); have HO4 := Lib.hid hown4; have g0 := hx4.cell h0; clear hown4)
      refine (RMul_c _ _ _ _).mono ?_; rintro e w5 ⟨rfl, x5⟩
      go_wp2_with fail
      go_roundw
      case rel =>
        refine ⟨j + 1, by go_num, by omega, by rw [E1.out], ?_, hx4.trans x5⟩
        rw [E2.out]; exact HO4.out.grow x5
      case measure => simp [intOf]; omega
    · obtain rfl : j = N := by omega
      go_wp2
      go_ret
      exact ⟨_, rfl, by rw [E.out]; exact HO.out.base X.size, X.trans hext⟩

/-! ### words -/
def cword (p N : Nat) (a : List Nat) : List Nat := reva p a (gent p) (rootN p N) N
def WIn (p : Nat) (N : Nat) : Prop := vld p = true ∧ okT p N = true
theorem cword_tE {p N : Nat} (h : WIn p N) (a : List Nat) (hl : a.length ≤ 8192) : tE p a (gent p) N = (cword p N a, 0) := by
  rw [Q.tE_same]; unfold rE
  rw [if_neg (by rw [h.1]; simp), if_pos ⟨h.2, by rw [gent_mod h.1]; have := (gent_bd h.1).1; omega⟩, if_pos hl, gent_mod h.1, Int.toNat_natCast]; rfl
/-- The fact of a region: a list and an error. -/
def IPF (base : Nat) (l : List Nat) (e : Int) : Fact := fun w v => ∃ u, v = .tuple #[u, .int .i64 e] ∧ Own w base u l
theorem IPF.mono {base : Nat} {l : List Nat} {e : Int} : Mono (IPF base l e) := fun _ _ _ hx ⟨u, hv, ho⟩ => ⟨u, hv, ho.grow hx⟩

set_option maxRecDepth 100000 in
set_option maxHeartbeats 2000000 in
theorem word_c (p N : Nat) (k : Int) (l : List Nat) (a : Option Addr) (c : Nat) (w : World) (h : WIn p N) (ha : Rd w a l) (hl : l.length ≤ 8192) (hN : N ≤ 4096) :
    Calls Try.prog 40 #[.agg #[.int .u64 p, .int .i64 N, .int .i64 k], .slice a l.length c] w (SlPost w (cword p N l)) := by
  have EC := fun w' (hr : Rd w' a l) => Evaluate_c p l (gent p) N a c w' hr (by omega) (by omega) (by omega)
  rw [cword_tE h l hl] at EC
  have HEC := Lib.hid EC
  have HA := Lib.hid ha
  have h1 : (w.alloc (.cells #[.int .u64 p, .int .i64 N, .int .i64 k] 31)).cell? ⟨w.heap.size, 1, none⟩ = some (.int .i64 N) := by simp
  have h1b := ((Ext.refl (w.alloc (.cells #[.int .u64 p, .int .i64 N, .int .i64 k] 31))).alloc (.cells #[.int .u64 p] 65)).cell h1
  have hc : ((w.alloc (.cells #[.int .u64 p, .int .i64 N, .int .i64 k] 31)).alloc (.cells #[.int .u64 p] 65)).cell? ⟨w.heap.size + 1, 0, none⟩ = some (.int .u64 p) := cnew _ _ _ _ _ (by simp)
  clear EC ha h1
  go_enter Try.func40, Try.ntmps40
  go_wp2
  refine region_facts [[], [], [], [(2, 14)], [], [(4, 16)], [(0, 12), (1, 13), (3, 15), (5, 17)], [(6, 18)], [(7, 11)], [(7, 11)], [(8, 19)], [(9, 20)]] [some 12, some 13, some 14, some 15, some 16, some 17, some 18, some 11, some 19, some 20, some 6, some 7] (by kernel_rfl) (by kernel_rfl) ?_
  with_reducible apply From.eq
  · intro w' hx; have hcx := hx.cell hc; have h1bx := hx.cell h1b; (try dsimp only [List.nil_append, List.cons_append]); dsimp only [DepsV, fat, eqF]; go_wp2; exact OpPost.some _ rfl rfl (Ext.refl _) rfl
  with_reducible apply From.eq
  · intro w' hx; have hcx := hx.cell hc; have h1bx := hx.cell h1b; (try dsimp only [List.nil_append, List.cons_append]); dsimp only [DepsV, fat, eqF]; go_wp2; exact OpPost.some _ rfl rfl (Ext.refl _) rfl
  with_reducible apply From.eq
  · intro w' hx; have hcx := hx.cell hc; have h1bx := hx.cell h1b; (try dsimp only [List.nil_append, List.cons_append]); dsimp only [DepsV, fat, eqF]; go_wp2; exact OpPost.some _ rfl rfl (Ext.refl _) rfl
  with_reducible apply From.eq
  · intro w' hx; have hcx := hx.cell hc; have h1bx := hx.cell h1b; (try dsimp only [List.nil_append, List.cons_append]); dsimp only [DepsV, fat, eqF]; rintro _ rfl; go_wp2_with (go_at_call 43; refine (Generator_c _ _).mono ?_; rintro e w2 ⟨rfl, hb2⟩); exact OpPost.some _ rfl rfl hb2 rfl
  with_reducible apply From.eq
  · intro w' hx; have hcx := hx.cell hc; have h1bx := hx.cell h1b; (try dsimp only [List.nil_append, List.cons_append]); dsimp only [DepsV, fat, eqF]; go_wp2; exact OpPost.some _ rfl rfl (Ext.refl _) rfl
  with_reducible apply From.eq
  · intro w' hx; have hcx := hx.cell hc; have h1bx := hx.cell h1b; (try dsimp only [List.nil_append, List.cons_append]); dsimp only [DepsV, fat, eqF]; rintro _ rfl; go_wp2; exact OpPost.some _ rfl rfl (Ext.refl _) rfl
  refine From.step (IPF w.heap.size (cword p N l) 0) (IPF.mono) ?_ ?_
  · intro w' hx; have hcx := hx.cell hc; have h1bx := hx.cell h1b; (try dsimp only [List.nil_append, List.cons_append]); dsimp only [DepsV, fat, eqF]; rintro _ rfl _ rfl _ rfl _ rfl; skip;
    go_wp2_with (go_at_call 61; refine (HEC.out _ (HA.out.ext hx.box.box)).mono ?_; rintro e w2 ⟨v, rfl, ho, hn⟩); exact OpPost.some _ rfl rfl hn ⟨v, rfl, ho.base hx.box.box.size⟩
  refine From.step (IPF w.heap.size (cword p N l) 0) (IPF.mono) ?_ ?_
  · intro w' hx; have hcx := hx.cell hc; have h1bx := hx.cell h1b; (try dsimp only [List.nil_append, List.cons_append]); dsimp only [DepsV, fat, eqF]; rintro v6 h6; go_wp2; exact OpPost.some _ rfl rfl (Ext.refl _) h6
  -- 8: t19
  refine From.step (OwnF w.heap.size (cword p N l)) OwnF.mono ?_ ?_
  · intro w' hx; have hcx := hx.cell hc; have h1bx := hx.cell h1b; (try dsimp only [List.nil_append, List.cons_append]); dsimp only [DepsV, fat, eqF]; rintro v7_ h7_; obtain ⟨u, rfl, hu⟩ := h7_; go_wp2; exact OpPost.some _ rfl rfl (Ext.refl _) hu
  -- 9: t20
  with_reducible apply From.eq
  · intro w' hx; have hcx := hx.cell hc; have h1bx := hx.cell h1b; (try dsimp only [List.nil_append, List.cons_append]); dsimp only [DepsV, fat, eqF]; rintro v7_ h7_; obtain ⟨u, rfl, hu⟩ := h7_; go_wp2; exact OpPost.some _ rfl rfl (Ext.refl _) rfl
  -- 10: t6
  refine From.step (OwnF w.heap.size (cword p N l)) OwnF.mono ?_ ?_
  · intro w' hx; have hcx := hx.cell hc; have h1bx := hx.cell h1b; (try dsimp only [List.nil_append, List.cons_append]); dsimp only [DepsV, fat, eqF]; rintro v8 h8; go_wp2; exact OpPost.some _ rfl rfl (Ext.refl _) h8
  with_reducible apply From.eq
  · intro w' hx; have hcx := hx.cell hc; have h1bx := hx.cell h1b; (try dsimp only [List.nil_append, List.cons_append]); dsimp only [DepsV, fat, eqF]; rintro _ rfl; go_wp2; exact OpPost.some _ rfl rfl (Ext.refl _) rfl
  with_reducible refine From.fin ?_
  intro w' hx
  (try dsimp only [List.nil_append, List.cons_append]); dsimp only [EndV, eqF]; rintro _ rfl _ rfl _ rfl _ rfl _ rfl _ rfl v6 h6 v7_ h7_ v8 h8 _ rfl v10 h10 _ rfl; simp only [Act.put, List.setIfInBounds_toArray, List.set_cons_zero, List.set_cons_succ]
  have HU : Hid (Own w' w.heap.size v10 (cword p N l)) := Lib.hid h10
  clear h6 h7_ h8 h10
  go_wp2
  go_ret
  exact ⟨_, rfl, HU.out, hx.box.box⟩
end Go.Proofs.Ytgnngifnoaagjaa
