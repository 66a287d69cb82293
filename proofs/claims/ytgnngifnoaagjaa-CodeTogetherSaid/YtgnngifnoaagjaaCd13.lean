/- Contracts: code.Close, code.Apart. -/
import Derived.Test.YtgnngifnoaagjaaCd12
import Derived.Test.YtgnngifnoaagjaaRegM
namespace Go.Proofs.Ytgnngifnoaagjaa
open Go.RowKit

theorem cLine_len {p : Nat} {n k : Int} {l m : List Nat} {e : Int} : (cLine p n k l m e).1.length ≤ 257 := by
  unfold cLine
  split
  · simp
  · split
    · rename_i h
      have := lineK_len p n.toNat k.toNat l m e p
      exact Nat.le_trans this h.2.1
    · simp
set_option maxRecDepth 100000 in
set_option maxHeartbeats 2000000 in
theorem Close_c (p : Nat) (n k : Int) (l m : List Nat) (e : Int) (a b : Option Addr) (c d : Nat) (w : World) (ha : Rd w a l) (hb : Rd w b m) (hn : n ≤ 9223372036854775807) (hn2 : -9223372036854775808 ≤ n) :
    Calls Try.prog 35 #[.agg #[.int .u64 p, .int .i64 n, .int .i64 k], .slice a l.length c, .slice b m.length d, .int .i64 e] w fun e' w' => e' = .returned (.tuple #[.int .i64 ((cLine p n k l m e).1.length : Nat), .int .i64 (cLine p n k l m e).2]) ∧ Ext w w' := by
  have HA := Lib.hid ha
  have HB := Lib.hid hb
  clear ha hb
  have h0 : (w.alloc (.cells #[.int .u64 p, .int .i64 n, .int .i64 k] 31)).cell? ⟨w.heap.size, 0, none⟩ = some (.int .u64 p) := by simp
  have h1 : (w.alloc (.cells #[.int .u64 p, .int .i64 n, .int .i64 k] 31)).cell? ⟨w.heap.size, 1, none⟩ = some (.int .i64 n) := by simp
  have h2 : (w.alloc (.cells #[.int .u64 p, .int .i64 n, .int .i64 k] 31)).cell? ⟨w.heap.size, 2, none⟩ = some (.int .i64 k) := by simp
  have LC := Lib.hid (fun w' h1 h2 => line_c p n k l m e a b c d w' h1 h2 hn hn2)
  obtain ⟨R, hR⟩ : ∃ R, R = cLine p n k l m e := ⟨_, rfl⟩
  rw [← hR] at LC
  rw [← hR]
  clear hR
  go_enter Try.func35, Try.ntmps35
  go_wp2_with fail
  refine (LC.out _ (HA.out.ext ((Ext.refl _).alloc _)) (HB.out.ext ((Ext.refl _).alloc _))).mono ?_; rintro e w1 ⟨v, E, rfl, o1, r1, x1⟩
  obtain ⟨a1, c1, hv, _, _⟩ := o1.form
  rw [r1.len] at hv
  subst hv
  have X := x1.box
  clear o1 r1 x1
  go_wp2_with fail
  go_ret2
  exact ⟨rfl, X⟩

/-- Apart. -/
def cApart (p : Nat) (n k : Int) (l m : List Nat) (e : Int) : Int × Int :=
  if (cLine p n k l m e).2 = 0 then (apM p n.toNat l m (cLine p n k l m e).1, 0) else (0, (cLine p n k l m e).2)
def ApRel (p N : Nat) (l m : List Nat) (x y : Nat × List Nat) (w1 : World) (v s : Value) (wr : World) : Prop :=
  ∃ j : Nat, s = .int .i64 j ∧ j ≤ N ∧ v = .int .i64 ((apC p l m x y j : Nat) : Int) ∧ Ext w1 wr
theorem cLine_zero {p : Nat} {n k : Int} {l m : List Nat} {e : Int} (h : (cLine p n k l m e).2 = 0) : cval p n k = true ∧ p ≤ 257 ∧ (l.length : Int) = n ∧ (m.length : Int) = n ∧ (cLine p n k l m e).1 = lineM p n.toNat k.toNat l m e := by
  unfold cLine at h ⊢
  split at h
  · exact absurd h (by decide)
  · split at h
    · rename_i h1 h2
      exact ⟨h2.1, h2.2.1, h2.2.2.1, h2.2.2.2.1, by rw [if_neg h1, if_pos h2]⟩
    · exact absurd h (by decide)
theorem lineM_len {p N K : Nat} {l m : List Nat} {e : Int} {x : Nat × List Nat} (h : x ∈ lineM p N K l m e) : x.2.length = N ∧ x.1 < p := by
  obtain ⟨h1, h2⟩ := lineK_mem.1 h
  obtain ⟨f, _, q2, _⟩ := near_sound h2
  exact ⟨by rw [q2, cword_len], h1⟩

theorem two_alloc (w5 : World) (A B : Array Value) (t : TypeId) : Ext w5 ((w5.alloc (.cells A t)).alloc (.cells B t)).drew ∧ (∀ i v, A[i]? = some v → ((w5.alloc (.cells A t)).alloc (.cells B t)).drew.cell? ⟨w5.heap.size, i, none⟩ = some v) ∧ (∀ i v, B[i]? = some v → ((w5.alloc (.cells A t)).alloc (.cells B t)).drew.cell? ⟨w5.heap.size + 1, i, none⟩ = some v) := by
  have x1 := (Ext.refl w5).alloc (.cells A t)
  have x2 := ((Ext.refl (w5.alloc (.cells A t))).alloc (.cells B t)).drew
  refine ⟨x1.trans x2, fun i v h => x2.cell ((cnew _ _ _ _ _ rfl).trans h), fun i v h => ?_⟩
  have := cnew (w5.alloc (.cells A t)) B t (w5.heap.size + 1) i (by simp)
  exact this.trans h

set_option maxRecDepth 100000 in
set_option maxHeartbeats 8000000 in
theorem Apart_c (p : Nat) (n k : Int) (l m : List Nat) (e : Int) (a b : Option Addr) (c d : Nat) (w : World) (ha : Rd w a l) (hb : Rd w b m) (hn : n ≤ 9223372036854775807) (hn2 : -9223372036854775808 ≤ n) :
    Calls Try.prog 36 #[.agg #[.int .u64 p, .int .i64 n, .int .i64 k], .slice a l.length c, .slice b m.length d, .int .i64 e] w fun e' w' => e' = .returned (.tuple #[.int .i64 (cApart p n k l m e).1, .int .i64 (cApart p n k l m e).2]) ∧ Ext w w' := by
  have HA := Lib.hid ha
  have HB := Lib.hid hb
  clear ha hb
  have h0 : (w.alloc (.cells #[.int .u64 p, .int .i64 n, .int .i64 k] 31)).cell? ⟨w.heap.size, 0, none⟩ = some (.int .u64 p) := by simp
  have h1 : (w.alloc (.cells #[.int .u64 p, .int .i64 n, .int .i64 k] 31)).cell? ⟨w.heap.size, 1, none⟩ = some (.int .i64 n) := by simp
  have h2 : (w.alloc (.cells #[.int .u64 p, .int .i64 n, .int .i64 k] 31)).cell? ⟨w.heap.size, 2, none⟩ = some (.int .i64 k) := by simp
  have LC := Lib.hid (fun w' h1 h2 => line_c p n k l m e a b c d w' h1 h2 hn hn2)
  have EA : Hid (cApart p n k l m e = if (cLine p n k l m e).2 = 0 then (apM p n.toNat l m (cLine p n k l m e).1, 0) else (0, (cLine p n k l m e).2)) := Lib.hid rfl
  have CZ := Lib.hid (fun h => cLine_zero (p := p) (n := n) (k := k) (l := l) (m := m) (e := e) h)
  have CN := Lib.hid (cLine_len (p := p) (n := n) (k := k) (l := l) (m := m) (e := e))
  obtain ⟨R, r2, hR⟩ : ∃ R r2, (R, r2) = cLine p n k l m e := ⟨_, _, rfl⟩
  rw [← hR] at LC EA CZ CN
  clear hR
  by_cases hr : r2 = 0
  case neg =>
    have t0 : (r2 != 0) = true := bne_iff_ne.2 hr
    have EA2 : Hid (cApart p n k l m e = (0, r2)) := Lib.hid (by rw [EA.out, if_neg hr])
    clear hr
    go_enter Try.func36, Try.ntmps36
    go_wp2_with fail
    refine (LC.out _ (HA.out.ext ((Ext.refl _).alloc _)) (HB.out.ext ((Ext.refl _).alloc _))).mono ?_; rintro e w1 ⟨v, E, rfl, o1, r1, x1⟩
    replace h0 := x1.cell h0
    replace h1 := x1.cell h1
    replace h2 := x1.cell h2
    obtain ⟨a1, c1, hv, _, f1⟩ := o1.form
    have RL := Lib.hid r1.len
    rw [RL.out] at hv
    subst hv
    have X := x1.box
    have F1 := Lib.hid f1
    have R1 := Lib.hid r1
    clear o1 r1 x1 f1
    go_wp2_with fail
    go_ret2
    rw [EA2.out]; exact ⟨rfl, X⟩
  subst hr
  have EA2 : Hid (cApart p n k l m e = (apM p n.toNat l m R, 0)) := Lib.hid (by rw [EA.out, if_pos rfl])
  by_cases h2R : R.length < 2
  case pos =>
    have EA3 : Hid (cApart p n k l m e = (-1, 0)) := Lib.hid (by rw [EA2.out]; unfold apM; rw [if_pos h2R])
    have CN' := CN.out
    go_enter Try.func36, Try.ntmps36
    go_wp2_with fail
    refine (LC.out _ (HA.out.ext ((Ext.refl _).alloc _)) (HB.out.ext ((Ext.refl _).alloc _))).mono ?_; rintro e w1 ⟨v, E, rfl, o1, r1, x1⟩
    replace h0 := x1.cell h0
    replace h1 := x1.cell h1
    replace h2 := x1.cell h2
    obtain ⟨a1, c1, hv, _, f1⟩ := o1.form
    have RL := Lib.hid r1.len
    rw [RL.out] at hv
    subst hv
    have X := x1.box
    have F1 := Lib.hid f1
    have R1 := Lib.hid r1
    clear o1 r1 x1 f1
    go_wp2_with fail
    go_ret2
    rw [EA3.out]; exact ⟨rfl, X⟩
  obtain ⟨z1, z2, z3, z4, z5⟩ := CZ.out rfl
  obtain ⟨hv, f, K, N, hf, hN, rfl, rfl, hK1, hK2, hNp, hd, ho⟩ := cval_spec z1
  have hN2 : N ≤ 256 := by rw [hN]; exact Nat.pow_le_pow_right (n := 2) (by omega) hf
  have hll : l.length = N := by omega
  have hml : m.length = N := by omega
  obtain ⟨x0, y0, R', hRR⟩ : ∃ x y R', R = x :: y :: R' := by
    match R, h2R with
    | [], h => exact absurd (by simp) h
    | [x], h => exact absurd (by simp) h
    | x :: y :: R', _ => exact ⟨x, y, R', rfl⟩
  have hxl := lineM_len (x := x0) (by rw [← z5]; simp [hRR])
  have hyl := lineM_len (x := y0) (by rw [← z5]; simp [hRR])
  obtain ⟨rx, xw⟩ := x0
  obtain ⟨ry, yw⟩ := y0
  have EA3 : Hid (cApart p N K l m e = (((apC p l m (rx, xw) (ry, yw) N : Nat) : Int), 0)) := Lib.hid (by
    rw [EA2.out]; unfold apM; rw [if_neg h2R, hRR, Int.toNat_natCast]; rfl)
  simp only at hxl hyl
  have HLL := Lib.hid hll
  have HML := Lib.hid hml
  have HXL := Lib.hid hxl
  have HYL := Lib.hid hyl
  have HRR := Lib.hid hRR
  have CN' : R.length ≤ 257 := CN.out
  clear z1 z2 z3 z4 z5 hd ho hN hf hll hml hxl hyl hRR EA EA2 CZ hv
  go_enter Try.func36, Try.ntmps36
  go_wp2_with fail
  refine (LC.out _ (HA.out.ext ((Ext.refl _).alloc _)) (HB.out.ext ((Ext.refl _).alloc _))).mono ?_; rintro e w1 ⟨v, E, rfl, o1, r1, x1⟩
  replace h0 := x1.cell h0
  replace h1 := x1.cell h1
  replace h2 := x1.cell h2
  obtain ⟨a1, c1, hv, _, f1⟩ := o1.form
  have RL := Lib.hid r1.len
  rw [RL.out] at hv
  subst hv
  have X := x1.box
  have F1 := Lib.hid f1
  have R1 := Lib.hid r1
  clear o1 r1 x1 f1
  go_wp2_with fail
  have KE : Hid (∃ (g : Nat) (xs ys : SlC), a1 = some ⟨g, 0, none⟩ ∧ w1.cell? ⟨g, 0, none⟩ = some (.int .u64 (rx : Int)) ∧ w1.cell? ⟨g, 1, none⟩ = some (celV xs) ∧ w1.cell? ⟨g, 2, none⟩ = some (.int .u64 (ry : Int)) ∧ w1.cell? ⟨g, 3, none⟩ = some (celV ys) ∧ xs.2.1 = N ∧ Rd w1 xs.1 xw ∧ ys.2.1 = N ∧ Rd w1 ys.1 yw) := Lib.hid (by
    rcases F1.out with h | ⟨g, hg, hc⟩
    · exfalso
      have := RL.out
      rw [h, HRR.out] at this
      simp at this
    · obtain ⟨q1, q2⟩ := R1.out
      rw [HRR.out] at q1 q2
      match E, q1, q2, hc with
      | [], q1, _, _ => simp at q1
      | [_], q1, _, _ => simp at q1
      | e0 :: e1 :: E', q1, q2, hc =>
        simp only [List.map_cons, List.cons.injEq] at q1
        have k0 := hc 0 (by simp)
        have k1 := hc 1 (by simp)
        have p0 := q2.2 0 (by simp)
        have p1 := q2.2 1 (by simp)
        simp only [List.getD_cons_zero, List.getD_cons_succ, List.map_cons] at k0 k1 p0 p1
        refine ⟨g, e0.2, e1.2, hg, ?_, ?_, ?_, ?_, by rw [p0.1]; exact HXL.out.1, p0.2, by rw [p1.1]; exact HYL.out.1, p1.2⟩
        · rw [← q1.1]; exact k0.1
        · exact k0.2
        · rw [← q1.2.1]; exact k1.1
        · exact k1.2)
  obtain ⟨g, ⟨xa, xn, xc⟩, ⟨ya, yn, yc⟩, rfl, m0, m1, m2, m3, hxn, rx2, hyn, ry2⟩ := KE.out
  simp only at hxn hyn rx2 ry2
  simp only [celV] at m1 m3
  rw [hxn] at m1
  rw [hyn] at m3
  have RX := Lib.hid rx2
  have RY := Lib.hid ry2
  clear rx2 ry2 F1 R1 KE hxn hyn
  have hg1 : g < w1.heap.size := World.block_lt_of_cell? w1 ⟨g, 0, none⟩ m0
  have hR0 : 0 < R.length := by omega
  have hR1 : 1 < R.length := by omega
  go_wp2_with fail
  have hc5 : (w1.alloc (.cells #[.int .u64 p] 65)).cell? ⟨w1.heap.size, 0, none⟩ = some (.int .u64 p) := cnew _ _ _ _ _ rfl
  have x5 := (Ext.refl w1).alloc (.cells #[.int .u64 p] 65)
  obtain ⟨w5, hw5⟩ : ∃ q, q = w1.alloc (.cells #[.int .u64 p] 65) := ⟨_, rfl⟩
  rw [← hw5] at hc5 x5
  rw [← hw5]
  replace m0 := x5.cell m0
  replace m1 := x5.cell m1
  replace m2 := x5.cell m2
  replace m3 := x5.cell m3
  replace hg1 : g < w5.heap.size := by have := x5.size; omega
  have hg2 : g ≠ w5.heap.size := by omega
  have hg3 : g ≠ w5.heap.size + 1 := by omega
  replace h0 := x5.cell h0
  replace h1 := x5.cell h1
  replace h2 := x5.cell h2
  replace X := X.trans x5
  have RX := Lib.hid (RX.out.ext x5)
  have RY := Lib.hid (RY.out.ext x5)
  clear hw5 x5
  go_region
  · obtain ⟨x6, cA, cB⟩ := two_alloc w5 #[.int .u64 rx, .slice xa N xc] #[.int .u64 ry, .slice ya N yc] 82
    have dx0 := cA 0 _ rfl
    have dx1 := cA 1 _ rfl
    have dy0 := cB 0 _ rfl
    have dy1 := cB 1 _ rfl
    replace hc5 := x6.cell hc5
    replace h1 := x6.cell h1
    replace X := X.trans x6
    have RX := Lib.hid (RX.out.ext x6)
    have RY := Lib.hid (RY.out.ext x6)
    clear x6 cA cB m0 m1 m2 m3 hg1 hg2 hg3 h0 h2
    obtain ⟨w6, hw6⟩ : ∃ q, q = ((w5.alloc (.cells #[.int .u64 rx, .slice xa N xc] 82)).alloc (.cells #[.int .u64 ry, .slice ya N yc] 82)).drew := ⟨_, rfl⟩
    rw [← hw6] at dx0 dx1 dy0 dy1 hc5 h1 X RX RY
    rw [← hw6]
    clear hw6
    obtain ⟨w5s, hs5⟩ : ∃ q, q = w5.heap.size := ⟨_, rfl⟩
    rw [← hs5] at dx0 dx1 dy0 dy1
    rw [← hs5]
    obtain ⟨w1s, hs1⟩ : ∃ q, q = w1.heap.size := ⟨_, rfl⟩
    rw [← hs1] at hc5
    rw [← hs1]
    clear hs5 hs1
    go_wp2_with fail
    refine region_factsL [[], [], [], [(2, 45)], [], [(4, 47)], [(1, 44), (3, 46), (5, 48)], [(0, 43), (6, 49)], [(7, 50)]] [some 43, some 44, some 45, some 46, some 47, some 48, some 49, some 50, some 15] [false, false, false, false, false, false, false, false, false, false, false, false, true, true, true, false, false, false, false, false, false, false, false, false, false, false, false, false, false, false, false, false, false, false, false, false, false, false, false, false, false, false, false, false, false, false, false, false, false, false, false, false, false, false, false, false, false, false, false, false, false, false, false, false, false, false, false, false, false, false, false, false, false, false, false, false, false, false, false, false, false, false, false, false, false, false, false, false, false, false, false, false, false, false, false, false, false, false, false, false, false, false, false, false, false] (by kernel_rfl) (by kernel_rfl) (by kernel_rfl) ?_
    dsimp only [maskL]
    with_reducible apply FromM.eq
    · intro w' hx; have hc5x := hx.cell hc5; have dx0x := hx.cell dx0; have dy0x := hx.cell dy0; (try dsimp only [List.nil_append, List.cons_append, DepsL, DepsL1, setO, setN, favs, opsOf]); go_wp2; exact OpPostE.some _ rfl rfl (Ext.refl _) rfl
    with_reducible apply FromM.eq
    · intro w' hx; have hc5x := hx.cell hc5; have dx0x := hx.cell dx0; have dy0x := hx.cell dy0; (try dsimp only [List.nil_append, List.cons_append, DepsL, DepsL1, setO, setN, favs, opsOf]); go_wp2; exact OpPostE.some _ rfl rfl (Ext.refl _) rfl
    with_reducible apply FromM.eq
    · intro w' hx; (try dsimp only [List.nil_append, List.cons_append, DepsL, DepsL1, setO, setN, favs, opsOf]); go_wp2; exact OpPostE.some _ rfl rfl (Ext.refl _) rfl
    with_reducible apply FromM.eq
    · intro w' hx; have hc5x := hx.cell hc5; have dx0x := hx.cell dx0; have dy0x := hx.cell dy0; (try dsimp only [List.nil_append, List.cons_append, DepsL, DepsL1, setO, setN, favs, opsOf]); go_wp2; exact OpPostE.some _ rfl rfl (Ext.refl _) rfl
    with_reducible apply FromM.eq
    · intro w' hx; (try dsimp only [List.nil_append, List.cons_append, DepsL, DepsL1, setO, setN, favs, opsOf]); go_wp2; exact OpPostE.some _ rfl rfl (Ext.refl _) rfl
    with_reducible apply FromM.eq
    · intro w' hx; have hc5x := hx.cell hc5; have dx0x := hx.cell dx0; have dy0x := hx.cell dy0; (try dsimp only [List.nil_append, List.cons_append, DepsL, DepsL1, setO, setN, favs, opsOf]); go_wp2; exact OpPostE.some _ rfl rfl (Ext.refl _) rfl
    with_reducible apply FromM.eq
    · intro w' hx; (try dsimp only [List.nil_append, List.cons_append, DepsL, DepsL1, setO, setN, favs, opsOf]); refine op_call 58 [.tmp 44, .tmp 46, .tmp 48] _ _ _ rfl rfl rfl rfl rfl rfl (fun _ _ => Try.call58 _ _) (Sub_c _ _ _ _) (fun e w2 h_ => ?_); obtain ⟨rfl, hb2⟩ := h_; exact ⟨_, rfl, hb2, rfl⟩
    with_reducible apply FromM.eq
    · intro w' hx; (try dsimp only [List.nil_append, List.cons_append, DepsL, DepsL1, setO, setN, favs, opsOf]); refine op_call 57 [.tmp 43, .tmp 49] _ _ _ rfl rfl rfl rfl rfl rfl (fun _ _ => Try.call57 _ _) (Inv_c _ _ _) (fun e w2 h_ => ?_); obtain ⟨rfl, hb2⟩ := h_; exact ⟨_, rfl, hb2, rfl⟩
    with_reducible apply FromM.eq
    · intro w' hx; (try dsimp only [List.nil_append, List.cons_append, DepsL, DepsL1, setO, setN, favs, opsOf]); go_wp2; exact OpPostE.some _ rfl rfl (Ext.refl _) rfl
    with_reducible refine FromM.fin ?_
    intro w' hx
    (try dsimp only [List.nil_append, List.cons_append, EndL, DepsL1, setO, setN])
    replace hc5 := hx.cell hc5
    replace h1 := hx.cell h1
    replace dx0 := hx.cell dx0
    replace dx1 := hx.cell dx1
    replace dy0 := hx.cell dy0
    replace dy1 := hx.cell dy1
    replace X := X.trans hx
    have RX := Lib.hid (RX.out.ext hx)
    have RY := Lib.hid (RY.out.ext hx)
    clear hx
    obtain ⟨w7, hw7⟩ : ∃ q : World, q = w' := ⟨_, rfl⟩
    subst hw7
    go_wp2_with fail
    go_loopw [16, 53] (ApRel p N l m (rx, xw) (ry, yw) w7) (fun _ i _ => N - (intOf i).toNat)
    case atStart => exact ⟨0, rfl, Nat.zero_le _, rfl, Ext.refl _⟩
    case round =>
      obtain ⟨j, rfl, hj, rfl, hext⟩ := hrel
    
      replace hc5 := hext.cell hc5
      replace dx0 := hext.cell dx0
      replace dx1 := hext.cell dx1
      replace dy0 := hext.cell dy0
      replace dy1 := hext.cell dy1
      replace X := X.trans hext
      have HX := Lib.hid hext
      have hq := apC_le p l m (rx, xw) (ry, yw) j
      by_cases hlt : j < N
      · have E1 : Hid (apC p l m (rx, xw) (ry, yw) (j + 1) = apC p l m (rx, xw) (ry, yw) j + if offB p l m (rx, xw) (ry, yw) j = true then 1 else 0) := Lib.hid rfl
        have E2 : Hid (offB p l m (rx, xw) (ry, yw) j = (decide (fred p (l.getD j 0) ≠ fsub p (xw.getD j 0) (fmul p rx (fmul p (fsub p (yw.getD j 0) (xw.getD j 0)) (finv p (fsub p ry rx))))) || decide (fred p (m.getD j 0) ≠ fmul p (fsub p (yw.getD j 0) (xw.getD j 0)) (finv p (fsub p ry rx))))) := Lib.hid rfl
        obtain ⟨gx, ox, rfl, qx⟩ := RX.out.at (by rw [HXL.out.1]; omega)
        obtain ⟨gy, oy, rfl, qy⟩ := RY.out.at (by rw [HYL.out.1]; omega)
        obtain ⟨ga, oa, rfl, qa⟩ := HA.out.at (by rw [HLL.out]; omega)
        obtain ⟨gb, ob, rfl, qb⟩ := HB.out.at (by rw [HML.out]; omega)
        have cx := hext.cell (qx j (by rw [HXL.out.1]; exact hlt))
        have cy := hext.cell (qy j (by rw [HYL.out.1]; exact hlt))
        have ca := X.cell (qa j (by rw [HLL.out]; exact hlt))
        have cb := X.cell (qb j (by rw [HML.out]; exact hlt))
        have la : j < l.length := by rw [HLL.out]; exact hlt
        have lb : j < m.length := by rw [HML.out]; exact hlt
        obtain ⟨Q, hQ⟩ : ∃ q, q = apC p l m (rx, xw) (ry, yw) j := ⟨_, rfl⟩
        obtain ⟨XX, hX0⟩ : ∃ x, x = xw.getD j 0 := ⟨_, rfl⟩
        obtain ⟨YY, hY0⟩ : ∃ x, x = yw.getD j 0 := ⟨_, rfl⟩
        obtain ⟨AA, hA0⟩ : ∃ x, x = l.getD j 0 := ⟨_, rfl⟩
        obtain ⟨BB, hB0⟩ : ∃ x, x = m.getD j 0 := ⟨_, rfl⟩
        rw [← hQ] at hq E1
        rw [← hQ]
        rw [← hX0] at cx E2
        rw [← hY0] at cy E2
        rw [← hA0] at ca E2
        rw [← hB0] at cb E2
        clear hX0 hY0 hA0 hB0 qx qy qa qb hext hQ
        go_wp2_with fail
        refine region_factsL [[], [], [], [(2, 58)], [], [(3, 59), (4, 60)], [(5, 61)], [], [(7, 63)], [], [(8, 64), (9, 65)], [(10, 66)], [(1, 57), (6, 62), (11, 67)], [], [(0, 56), (12, 68), (13, 69)], [(14, 70)]] [some 56, some 57, some 58, some 59, some 60, some 61, some 62, some 63, some 64, some 65, some 66, some 67, some 68, some 69, some 70, some 18] [false, false, false, false, false, false, false, false, false, false, false, false, true, true, true, true, false, true, false, false, false, false, false, false, false, false, false, false, false, false, false, false, false, false, false, false, false, false, false, false, false, false, false, false, false, false, false, false, false, false, false, false, false, false, false, false, false, false, false, false, false, false, false, false, false, false, false, false, false, false, false, false, false, false, false, false, false, false, false, false, false, false, false, false, false, false, false, false, false, false, false, false, false, false, false, false, false, false, false, false, false, false, false, false, false] (by kernel_rfl) (by kernel_rfl) (by kernel_rfl) ?_
        dsimp only [maskL]
        with_reducible apply FromM.eq
        · intro w' hx; have hc5x := hx.cell hc5; have dx1x := hx.cell dx1; have dy1x := hx.cell dy1; have cxx := hx.cell cx; have cyx := hx.cell cy; (try dsimp only [List.nil_append, List.cons_append, DepsL, DepsL1, setO, setN, favs, opsOf]); go_wp2; exact OpPostE.some _ rfl rfl (Ext.refl _) rfl
        with_reducible apply FromM.eq
        · intro w' hx; have hc5x := hx.cell hc5; have dx1x := hx.cell dx1; have dy1x := hx.cell dy1; have cxx := hx.cell cx; have cyx := hx.cell cy; (try dsimp only [List.nil_append, List.cons_append, DepsL, DepsL1, setO, setN, favs, opsOf]); go_wp2; exact OpPostE.some _ rfl rfl (Ext.refl _) rfl
        with_reducible apply FromM.eq
        · intro w' hx; (try dsimp only [List.nil_append, List.cons_append, DepsL, DepsL1, setO, setN, favs, opsOf]); go_wp2; exact OpPostE.some _ rfl rfl (Ext.refl _) rfl
        with_reducible apply FromM.eq
        · intro w' hx; have hc5x := hx.cell hc5; have dx1x := hx.cell dx1; have dy1x := hx.cell dy1; have cxx := hx.cell cx; have cyx := hx.cell cy; (try dsimp only [List.nil_append, List.cons_append, DepsL, DepsL1, setO, setN, favs, opsOf]); go_wp2; exact OpPostE.some _ rfl rfl (Ext.refl _) rfl
        with_reducible apply FromM.eq
        · intro w' hx; (try dsimp only [List.nil_append, List.cons_append, DepsL, DepsL1, setO, setN, favs, opsOf]); go_wp2; exact OpPostE.some _ rfl rfl (Ext.refl _) rfl
        with_reducible apply FromM.eq
        · intro w' hx; (try dsimp only [List.nil_append, List.cons_append, DepsL, DepsL1, setO, setN, favs, opsOf]); go_wp2; exact OpPostE.some _ rfl rfl (Ext.refl _) rfl
        with_reducible apply FromM.eq
        · intro w' hx; have hc5x := hx.cell hc5; have dx1x := hx.cell dx1; have dy1x := hx.cell dy1; have cxx := hx.cell cx; have cyx := hx.cell cy; (try dsimp only [List.nil_append, List.cons_append, DepsL, DepsL1, setO, setN, favs, opsOf]); go_wp2; exact OpPostE.some _ rfl rfl (Ext.refl _) rfl
        with_reducible apply FromM.eq
        · intro w' hx; (try dsimp only [List.nil_append, List.cons_append, DepsL, DepsL1, setO, setN, favs, opsOf]); go_wp2; exact OpPostE.some _ rfl rfl (Ext.refl _) rfl
        with_reducible apply FromM.eq
        · intro w' hx; have hc5x := hx.cell hc5; have dx1x := hx.cell dx1; have dy1x := hx.cell dy1; have cxx := hx.cell cx; have cyx := hx.cell cy; (try dsimp only [List.nil_append, List.cons_append, DepsL, DepsL1, setO, setN, favs, opsOf]); go_wp2; exact OpPostE.some _ rfl rfl (Ext.refl _) rfl
        with_reducible apply FromM.eq
        · intro w' hx; (try dsimp only [List.nil_append, List.cons_append, DepsL, DepsL1, setO, setN, favs, opsOf]); go_wp2; exact OpPostE.some _ rfl rfl (Ext.refl _) rfl
        with_reducible apply FromM.eq
        · intro w' hx; (try dsimp only [List.nil_append, List.cons_append, DepsL, DepsL1, setO, setN, favs, opsOf]); go_wp2; exact OpPostE.some _ rfl rfl (Ext.refl _) rfl
        with_reducible apply FromM.eq
        · intro w' hx; have hc5x := hx.cell hc5; have dx1x := hx.cell dx1; have dy1x := hx.cell dy1; have cxx := hx.cell cx; have cyx := hx.cell cy; (try dsimp only [List.nil_append, List.cons_append, DepsL, DepsL1, setO, setN, favs, opsOf]); go_wp2; exact OpPostE.some _ rfl rfl (Ext.refl _) rfl
        with_reducible apply FromM.eq
        · intro w' hx; (try dsimp only [List.nil_append, List.cons_append, DepsL, DepsL1, setO, setN, favs, opsOf]); refine op_call 58 [.tmp 57, .tmp 62, .tmp 67] _ _ _ rfl rfl rfl rfl rfl rfl (fun _ _ => Try.call58 _ _) (Sub_c _ _ _ _) (fun e w2 h_ => ?_); obtain ⟨rfl, hb2⟩ := h_; exact ⟨_, rfl, hb2, rfl⟩
        with_reducible apply FromM.eq
        · intro w' hx; (try dsimp only [List.nil_append, List.cons_append, DepsL, DepsL1, setO, setN, favs, opsOf]); go_wp2; exact OpPostE.some _ rfl rfl (Ext.refl _) rfl
        with_reducible apply FromM.eq
        · intro w' hx; (try dsimp only [List.nil_append, List.cons_append, DepsL, DepsL1, setO, setN, favs, opsOf]); refine op_call 44 [.tmp 56, .tmp 68, .tmp 69] _ _ _ rfl rfl rfl rfl rfl rfl (fun _ _ => Try.call44 _ _) (Mul_c _ _ _ _) (fun e w2 h_ => ?_); obtain ⟨rfl, hb2⟩ := h_; exact ⟨_, rfl, hb2, rfl⟩
        with_reducible apply FromM.eq
        · intro w' hx; (try dsimp only [List.nil_append, List.cons_append, DepsL, DepsL1, setO, setN, favs, opsOf]); go_wp2; exact OpPostE.some _ rfl rfl (Ext.refl _) rfl
        with_reducible refine FromM.fin ?_
        intro w' hx
        (try dsimp only [List.nil_append, List.cons_append, EndL, DepsL1, setO, setN])
        replace hc5 := hx.cell hc5
        replace dx0 := hx.cell dx0
        replace dx1 := hx.cell dx1
        replace cx := hx.cell cx
        replace ca := hx.cell ca
        replace cb := hx.cell cb
        have HX := Lib.hid (HX.out.trans hx)
        clear hx
        obtain ⟨w8, hw8⟩ : ∃ q : World, q = w' := ⟨_, rfl⟩
        subst hw8
        go_wp2_with fail
        refine region_factsL [[], [], [(1, 72)], [], [(2, 73), (3, 74)], [(4, 75)], [], [], [(7, 78)], [], [(6, 77), (8, 79), (9, 80)], [(0, 71), (5, 76), (10, 81)], [(11, 82)]] [some 71, some 72, some 73, some 74, some 75, some 76, some 77, some 78, some 79, some 80, some 81, some 82, some 19] [false, false, false, false, false, false, false, false, false, false, false, false, true, true, false, false, false, true, true, false, false, false, false, false, false, false, false, false, false, false, false, false, false, false, false, false, false, false, false, false, false, false, false, false, false, false, false, false, false, false, false, false, false, false, false, false, false, false, false, false, false, false, false, false, false, false, false, false, false, false, false, false, false, false, false, false, false, false, false, false, false, false, false, false, false, false, false, false, false, false, false, false, false, false, false, false, false, false, false, false, false, false, false, false, false] (by kernel_rfl) (by kernel_rfl) (by kernel_rfl) ?_
        dsimp only [maskL]
        with_reducible apply FromM.eq
        · intro w' hx; have hc5x := hx.cell hc5; have dx1x := hx.cell dx1; have dx0x := hx.cell dx0; have cxx := hx.cell cx; (try dsimp only [List.nil_append, List.cons_append, DepsL, DepsL1, setO, setN, favs, opsOf]); go_wp2; exact OpPostE.some _ rfl rfl (Ext.refl _) rfl
        with_reducible apply FromM.eq
        · intro w' hx; (try dsimp only [List.nil_append, List.cons_append, DepsL, DepsL1, setO, setN, favs, opsOf]); go_wp2; exact OpPostE.some _ rfl rfl (Ext.refl _) rfl
        with_reducible apply FromM.eq
        · intro w' hx; have hc5x := hx.cell hc5; have dx1x := hx.cell dx1; have dx0x := hx.cell dx0; have cxx := hx.cell cx; (try dsimp only [List.nil_append, List.cons_append, DepsL, DepsL1, setO, setN, favs, opsOf]); go_wp2; exact OpPostE.some _ rfl rfl (Ext.refl _) rfl
        with_reducible apply FromM.eq
        · intro w' hx; (try dsimp only [List.nil_append, List.cons_append, DepsL, DepsL1, setO, setN, favs, opsOf]); go_wp2; exact OpPostE.some _ rfl rfl (Ext.refl _) rfl
        with_reducible apply FromM.eq
        · intro w' hx; (try dsimp only [List.nil_append, List.cons_append, DepsL, DepsL1, setO, setN, favs, opsOf]); go_wp2; exact OpPostE.some _ rfl rfl (Ext.refl _) rfl
        with_reducible apply FromM.eq
        · intro w' hx; have hc5x := hx.cell hc5; have dx1x := hx.cell dx1; have dx0x := hx.cell dx0; have cxx := hx.cell cx; (try dsimp only [List.nil_append, List.cons_append, DepsL, DepsL1, setO, setN, favs, opsOf]); go_wp2; exact OpPostE.some _ rfl rfl (Ext.refl _) rfl
        with_reducible apply FromM.eq
        · intro w' hx; have hc5x := hx.cell hc5; have dx1x := hx.cell dx1; have dx0x := hx.cell dx0; have cxx := hx.cell cx; (try dsimp only [List.nil_append, List.cons_append, DepsL, DepsL1, setO, setN, favs, opsOf]); go_wp2; exact OpPostE.some _ rfl rfl (Ext.refl _) rfl
        with_reducible apply FromM.eq
        · intro w' hx; (try dsimp only [List.nil_append, List.cons_append, DepsL, DepsL1, setO, setN, favs, opsOf]); go_wp2; exact OpPostE.some _ rfl rfl (Ext.refl _) rfl
        with_reducible apply FromM.eq
        · intro w' hx; have hc5x := hx.cell hc5; have dx1x := hx.cell dx1; have dx0x := hx.cell dx0; have cxx := hx.cell cx; (try dsimp only [List.nil_append, List.cons_append, DepsL, DepsL1, setO, setN, favs, opsOf]); go_wp2; exact OpPostE.some _ rfl rfl (Ext.refl _) rfl
        with_reducible apply FromM.eq
        · intro w' hx; (try dsimp only [List.nil_append, List.cons_append, DepsL, DepsL1, setO, setN, favs, opsOf]); go_wp2; exact OpPostE.some _ rfl rfl (Ext.refl _) rfl
        with_reducible apply FromM.eq
        · intro w' hx; (try dsimp only [List.nil_append, List.cons_append, DepsL, DepsL1, setO, setN, favs, opsOf]); refine op_call 44 [.tmp 77, .tmp 79, .tmp 80] _ _ _ rfl rfl rfl rfl rfl rfl (fun _ _ => Try.call44 _ _) (Mul_c _ _ _ _) (fun e w2 h_ => ?_); obtain ⟨rfl, hb2⟩ := h_; exact ⟨_, rfl, hb2, rfl⟩
        with_reducible apply FromM.eq
        · intro w' hx; (try dsimp only [List.nil_append, List.cons_append, DepsL, DepsL1, setO, setN, favs, opsOf]); refine op_call 58 [.tmp 71, .tmp 76, .tmp 81] _ _ _ rfl rfl rfl rfl rfl rfl (fun _ _ => Try.call58 _ _) (Sub_c _ _ _ _) (fun e w2 h_ => ?_); obtain ⟨rfl, hb2⟩ := h_; exact ⟨_, rfl, hb2, rfl⟩
        with_reducible apply FromM.eq
        · intro w' hx; (try dsimp only [List.nil_append, List.cons_append, DepsL, DepsL1, setO, setN, favs, opsOf]); go_wp2; exact OpPostE.some _ rfl rfl (Ext.refl _) rfl
        with_reducible refine FromM.fin ?_
        intro w' hx
        (try dsimp only [List.nil_append, List.cons_append, EndL, DepsL1, setO, setN])
        replace hc5 := hx.cell hc5
        replace ca := hx.cell ca
        replace cb := hx.cell cb
        have HX := Lib.hid (HX.out.trans hx)
        clear hx
        obtain ⟨w9, hw9⟩ : ∃ q : World, q = w' := ⟨_, rfl⟩
        subst hw9
        obtain ⟨SL, hSL⟩ : ∃ q, q = fmul p (fsub p YY XX) (finv p (fsub p ry rx)) := ⟨_, rfl⟩
        rw [← hSL] at E2
        rw [← hSL]
        obtain ⟨ST, hST⟩ : ∃ q, q = fsub p XX (fmul p rx SL) := ⟨_, rfl⟩
        rw [← hST] at E2
        rw [← hST]
        obtain ⟨FA, hFA⟩ : ∃ q, q = fred p AA := ⟨_, rfl⟩
        obtain ⟨FB, hFB⟩ : ∃ q, q = fred p BB := ⟨_, rfl⟩
        rw [← hFA, ← hFB] at E2
        have RA : Hid (∀ w, Calls Try.prog 59 #[.agg #[.int .u64 p], .int .u64 AA] w fun e w' => e = .returned (.int .u64 (FA : Int)) ∧ Ext w w') := Lib.hid (fun w => by rw [hFA]; exact Reduce_c p AA w)
        have RB : Hid (∀ w, Calls Try.prog 59 #[.agg #[.int .u64 p], .int .u64 BB] w fun e w' => e = .returned (.int .u64 (FB : Int)) ∧ Ext w w') := Lib.hid (fun w => by rw [hFB]; exact Reduce_c p BB w)
        clear hSL hST hFA hFB cx dx0 dx1 dy0 dy1
        by_cases qA : FA = ST
        · have t1 : ((FA : Int) != (ST : Int)) = false := by rw [qA]; simp
          by_cases qB : FB = SL
          · have t2 : ((FB : Int) != (SL : Int)) = false := by rw [qB]; simp
            have E3 : Hid (apC p l m (rx, xw) (ry, yw) (j + 1) = Q) := Lib.hid (by rw [E1.out, E2.out, if_neg (by simp [qA, qB]), Nat.add_zero])
            clear qA qB
            go_wp2_with fail
            refine region_factsL [[], [], [], [(1, 84), (2, 85)], [(3, 86)], [(0, 83), (4, 87)], [], [(5, 88), (6, 89)], [(7, 90)], [(8, 91)], [(8, 91)], [(8, 91)], [(10, 93), (11, 94), (8, 91)], [(12, 95), (8, 91)], [(9, 92), (13, 96), (8, 91)], [(8, 91)], [(14, 97), (15, 98), (8, 91)], [(8, 91), (16, 99)]] [some 83, some 84, some 85, some 86, some 87, some 88, some 89, some 90, some 91, some 92, some 93, some 94, some 95, some 96, some 97, some 98, some 99, some 100] [false, true, true, false, false, false, false, false, false, false, false, false, true, false, false, false, false, true, true, true, false, false, false, false, false, false, false, false, false, false, false, false, false, false, false, false, false, false, false, false, false, false, false, false, false, false, false, false, false, false, false, false, false, false, false, false, false, false, false, false, false, false, false, false, false, false, false, false, false, false, false, false, false, false, false, false, false, false, false, false, false, false, false, false, false, false, false, false, false, false, false, false, false, false, false, false, false, false, false, false, false, false, false, false, false] (by kernel_rfl) (by kernel_rfl) (by kernel_rfl) ?_
            dsimp only [maskL]
            with_reducible apply FromM.eq
            · intro w' hx; have hc5x := hx.cell hc5; have cax := hx.cell ca; have cbx := hx.cell cb; (try dsimp only [List.nil_append, List.cons_append, DepsL, DepsL1, setO, setN, favs, opsOf]); go_wp2; exact OpPostE.some _ rfl rfl (Ext.refl _) rfl
            with_reducible apply FromM.eq
            · intro w' hx; (try dsimp only [List.nil_append, List.cons_append, DepsL, DepsL1, setO, setN, favs, opsOf]); go_wp2; exact OpPostE.some _ rfl rfl (Ext.refl _) rfl
            with_reducible apply FromM.eq
            · intro w' hx; (try dsimp only [List.nil_append, List.cons_append, DepsL, DepsL1, setO, setN, favs, opsOf]); go_wp2; exact OpPostE.some _ rfl rfl (Ext.refl _) rfl
            with_reducible apply FromM.eq
            · intro w' hx; (try dsimp only [List.nil_append, List.cons_append, DepsL, DepsL1, setO, setN, favs, opsOf]); go_wp2; exact OpPostE.some _ rfl rfl (Ext.refl _) rfl
            with_reducible apply FromM.eq
            · intro w' hx; have hc5x := hx.cell hc5; have cax := hx.cell ca; have cbx := hx.cell cb; (try dsimp only [List.nil_append, List.cons_append, DepsL, DepsL1, setO, setN, favs, opsOf]); go_wp2; exact OpPostE.some _ rfl rfl (Ext.refl _) rfl
            with_reducible apply FromM.eq
            · intro w' hx; (try dsimp only [List.nil_append, List.cons_append, DepsL, DepsL1, setO, setN, favs, opsOf]); refine op_call 59 [.tmp 83, .tmp 87] _ _ _ rfl rfl rfl rfl rfl rfl (fun _ _ => Try.call59 _ _) (RA.out _) (fun e w2 h_ => ?_); obtain ⟨rfl, hb2⟩ := h_; exact ⟨_, rfl, hb2, rfl⟩
            with_reducible apply FromM.eq
            · intro w' hx; (try dsimp only [List.nil_append, List.cons_append, DepsL, DepsL1, setO, setN, favs, opsOf]); go_wp2; exact OpPostE.some _ rfl rfl (Ext.refl _) rfl
            with_reducible apply FromM.eq
            · intro w' hx; (try dsimp only [List.nil_append, List.cons_append, DepsL, DepsL1, setO, setN, favs, opsOf]); go_wp2; exact OpPostE.some _ rfl rfl (Ext.refl _) rfl
            with_reducible apply FromM.eq
            · intro w' hx; (try dsimp only [List.nil_append, List.cons_append, DepsL, DepsL1, setO, setN, favs, opsOf]); go_wp2; exact OpPostE.some _ rfl rfl (Ext.refl _) rfl
            with_reducible apply FromM.eq
            · intro w' hx; have hc5x := hx.cell hc5; have cax := hx.cell ca; have cbx := hx.cell cb; (try dsimp only [List.nil_append, List.cons_append, DepsL, DepsL1, setO, setN, favs, opsOf]); go_wp2; exact OpPostE.some _ rfl rfl (Ext.refl _) rfl
            with_reducible apply FromM.eq
            · intro w' hx; (try dsimp only [List.nil_append, List.cons_append, DepsL, DepsL1, setO, setN, favs, opsOf]); go_wp2; exact OpPostE.some _ rfl rfl (Ext.refl _) rfl
            with_reducible apply FromM.eq
            · intro w' hx; (try dsimp only [List.nil_append, List.cons_append, DepsL, DepsL1, setO, setN, favs, opsOf]); go_wp2; exact OpPostE.some _ rfl rfl (Ext.refl _) rfl
            with_reducible apply FromM.eq
            · intro w' hx; (try dsimp only [List.nil_append, List.cons_append, DepsL, DepsL1, setO, setN, favs, opsOf]); go_wp2; exact OpPostE.some _ rfl rfl (Ext.refl _) rfl
            with_reducible apply FromM.eq
            · intro w' hx; have hc5x := hx.cell hc5; have cax := hx.cell ca; have cbx := hx.cell cb; (try dsimp only [List.nil_append, List.cons_append, DepsL, DepsL1, setO, setN, favs, opsOf]); go_wp2; exact OpPostE.some _ rfl rfl (Ext.refl _) rfl
            with_reducible apply FromM.eq
            · intro w' hx; (try dsimp only [List.nil_append, List.cons_append, DepsL, DepsL1, setO, setN, favs, opsOf]); go_wp2_with (go_at_call 59; refine (RB.out _).mono ?_; rintro e w2 ⟨rfl, hb2⟩); exact OpPostE.some _ rfl rfl hb2 rfl
            with_reducible apply FromM.eq
            · intro w' hx; (try dsimp only [List.nil_append, List.cons_append, DepsL, DepsL1, setO, setN, favs, opsOf]); go_wp2; exact OpPostE.some _ rfl rfl (Ext.refl _) rfl
            with_reducible apply FromM.eq
            · intro w' hx; (try dsimp only [List.nil_append, List.cons_append, DepsL, DepsL1, setO, setN, favs, opsOf]); go_wp2; exact OpPostE.some _ rfl rfl (Ext.refl _) rfl
            with_reducible apply FromM.eq
            · intro w' hx; (try dsimp only [List.nil_append, List.cons_append, DepsL, DepsL1, setO, setN, favs, opsOf]); go_wp2; exact OpPostE.some _ rfl rfl (Ext.refl _) rfl
            with_reducible refine FromM.fin ?_
            intro w' hx
            (try dsimp only [List.nil_append, List.cons_append, EndL, DepsL1, setO, setN])
            have HX := Lib.hid (HX.out.trans hx)
            clear hx
            go_wp2_with fail
            go_roundw
            case rel => exact ⟨j + 1, by go_num, by omega, by rw [E3.out], HX.out⟩
            case measure => simp [intOf]; omega
          · have t2 : ((FB : Int) != (SL : Int)) = true := bne_iff_ne.2 (by omega)
            have E3 : Hid (apC p l m (rx, xw) (ry, yw) (j + 1) = Q + 1) := Lib.hid (by rw [E1.out, E2.out, if_pos (by simp [qB])])
            clear qA qB
            go_wp2_with fail
            refine region_factsL [[], [], [], [(1, 84), (2, 85)], [(3, 86)], [(0, 83), (4, 87)], [], [(5, 88), (6, 89)], [(7, 90)], [(8, 91)], [(8, 91)], [(8, 91)], [(10, 93), (11, 94), (8, 91)], [(12, 95), (8, 91)], [(9, 92), (13, 96), (8, 91)], [(8, 91)], [(14, 97), (15, 98), (8, 91)], [(8, 91), (16, 99)]] [some 83, some 84, some 85, some 86, some 87, some 88, some 89, some 90, some 91, some 92, some 93, some 94, some 95, some 96, some 97, some 98, some 99, some 100] [false, true, true, false, false, false, false, false, false, false, false, false, true, false, false, false, false, true, true, true, false, false, false, false, false, false, false, false, false, false, false, false, false, false, false, false, false, false, false, false, false, false, false, false, false, false, false, false, false, false, false, false, false, false, false, false, false, false, false, false, false, false, false, false, false, false, false, false, false, false, false, false, false, false, false, false, false, false, false, false, false, false, false, false, false, false, false, false, false, false, false, false, false, false, false, false, false, false, false, false, false, false, false, false, false] (by kernel_rfl) (by kernel_rfl) (by kernel_rfl) ?_
            dsimp only [maskL]
            with_reducible apply FromM.eq
            · intro w' hx; have hc5x := hx.cell hc5; have cax := hx.cell ca; have cbx := hx.cell cb; (try dsimp only [List.nil_append, List.cons_append, DepsL, DepsL1, setO, setN, favs, opsOf]); go_wp2; exact OpPostE.some _ rfl rfl (Ext.refl _) rfl
            with_reducible apply FromM.eq
            · intro w' hx; (try dsimp only [List.nil_append, List.cons_append, DepsL, DepsL1, setO, setN, favs, opsOf]); go_wp2; exact OpPostE.some _ rfl rfl (Ext.refl _) rfl
            with_reducible apply FromM.eq
            · intro w' hx; (try dsimp only [List.nil_append, List.cons_append, DepsL, DepsL1, setO, setN, favs, opsOf]); go_wp2; exact OpPostE.some _ rfl rfl (Ext.refl _) rfl
            with_reducible apply FromM.eq
            · intro w' hx; (try dsimp only [List.nil_append, List.cons_append, DepsL, DepsL1, setO, setN, favs, opsOf]); go_wp2; exact OpPostE.some _ rfl rfl (Ext.refl _) rfl
            with_reducible apply FromM.eq
            · intro w' hx; have hc5x := hx.cell hc5; have cax := hx.cell ca; have cbx := hx.cell cb; (try dsimp only [List.nil_append, List.cons_append, DepsL, DepsL1, setO, setN, favs, opsOf]); go_wp2; exact OpPostE.some _ rfl rfl (Ext.refl _) rfl
            with_reducible apply FromM.eq
            · intro w' hx; (try dsimp only [List.nil_append, List.cons_append, DepsL, DepsL1, setO, setN, favs, opsOf]); refine op_call 59 [.tmp 83, .tmp 87] _ _ _ rfl rfl rfl rfl rfl rfl (fun _ _ => Try.call59 _ _) (RA.out _) (fun e w2 h_ => ?_); obtain ⟨rfl, hb2⟩ := h_; exact ⟨_, rfl, hb2, rfl⟩
            with_reducible apply FromM.eq
            · intro w' hx; (try dsimp only [List.nil_append, List.cons_append, DepsL, DepsL1, setO, setN, favs, opsOf]); go_wp2; exact OpPostE.some _ rfl rfl (Ext.refl _) rfl
            with_reducible apply FromM.eq
            · intro w' hx; (try dsimp only [List.nil_append, List.cons_append, DepsL, DepsL1, setO, setN, favs, opsOf]); go_wp2; exact OpPostE.some _ rfl rfl (Ext.refl _) rfl
            with_reducible apply FromM.eq
            · intro w' hx; (try dsimp only [List.nil_append, List.cons_append, DepsL, DepsL1, setO, setN, favs, opsOf]); go_wp2; exact OpPostE.some _ rfl rfl (Ext.refl _) rfl
            with_reducible apply FromM.eq
            · intro w' hx; have hc5x := hx.cell hc5; have cax := hx.cell ca; have cbx := hx.cell cb; (try dsimp only [List.nil_append, List.cons_append, DepsL, DepsL1, setO, setN, favs, opsOf]); go_wp2; exact OpPostE.some _ rfl rfl (Ext.refl _) rfl
            with_reducible apply FromM.eq
            · intro w' hx; (try dsimp only [List.nil_append, List.cons_append, DepsL, DepsL1, setO, setN, favs, opsOf]); go_wp2; exact OpPostE.some _ rfl rfl (Ext.refl _) rfl
            with_reducible apply FromM.eq
            · intro w' hx; (try dsimp only [List.nil_append, List.cons_append, DepsL, DepsL1, setO, setN, favs, opsOf]); go_wp2; exact OpPostE.some _ rfl rfl (Ext.refl _) rfl
            with_reducible apply FromM.eq
            · intro w' hx; (try dsimp only [List.nil_append, List.cons_append, DepsL, DepsL1, setO, setN, favs, opsOf]); go_wp2; exact OpPostE.some _ rfl rfl (Ext.refl _) rfl
            with_reducible apply FromM.eq
            · intro w' hx; have hc5x := hx.cell hc5; have cax := hx.cell ca; have cbx := hx.cell cb; (try dsimp only [List.nil_append, List.cons_append, DepsL, DepsL1, setO, setN, favs, opsOf]); go_wp2; exact OpPostE.some _ rfl rfl (Ext.refl _) rfl
            with_reducible apply FromM.eq
            · intro w' hx; (try dsimp only [List.nil_append, List.cons_append, DepsL, DepsL1, setO, setN, favs, opsOf]); go_wp2_with (go_at_call 59; refine (RB.out _).mono ?_; rintro e w2 ⟨rfl, hb2⟩); exact OpPostE.some _ rfl rfl hb2 rfl
            with_reducible apply FromM.eq
            · intro w' hx; (try dsimp only [List.nil_append, List.cons_append, DepsL, DepsL1, setO, setN, favs, opsOf]); go_wp2; exact OpPostE.some _ rfl rfl (Ext.refl _) rfl
            with_reducible apply FromM.eq
            · intro w' hx; (try dsimp only [List.nil_append, List.cons_append, DepsL, DepsL1, setO, setN, favs, opsOf]); go_wp2; exact OpPostE.some _ rfl rfl (Ext.refl _) rfl
            with_reducible apply FromM.eq
            · intro w' hx; (try dsimp only [List.nil_append, List.cons_append, DepsL, DepsL1, setO, setN, favs, opsOf]); go_wp2; exact OpPostE.some _ rfl rfl (Ext.refl _) rfl
            with_reducible refine FromM.fin ?_
            intro w' hx
            (try dsimp only [List.nil_append, List.cons_append, EndL, DepsL1, setO, setN])
            have HX := Lib.hid (HX.out.trans hx)
            clear hx
            go_wp2_with fail
            go_roundw
            case rel => exact ⟨j + 1, by go_num, by omega, by rw [E3.out]; go_num, HX.out⟩
            case measure => simp [intOf]; omega
        · have t1 : ((FA : Int) != (ST : Int)) = true := bne_iff_ne.2 (by omega)
          have E3 : Hid (apC p l m (rx, xw) (ry, yw) (j + 1) = Q + 1) := Lib.hid (by rw [E1.out, E2.out, if_pos (by simp [qA])])
          clear qA
          go_wp2_with fail
          refine region_factsL [[], [], [], [(1, 84), (2, 85)], [(3, 86)], [(0, 83), (4, 87)], [], [(5, 88), (6, 89)], [(7, 90)], [(8, 91)], [(8, 91)], [(8, 91)], [(10, 93), (11, 94), (8, 91)], [(12, 95), (8, 91)], [(9, 92), (13, 96), (8, 91)], [(8, 91)], [(14, 97), (15, 98), (8, 91)], [(8, 91), (16, 99)]] [some 83, some 84, some 85, some 86, some 87, some 88, some 89, some 90, some 91, some 92, some 93, some 94, some 95, some 96, some 97, some 98, some 99, some 100] [false, true, true, false, false, false, false, false, false, false, false, false, true, false, false, false, false, true, true, true, false, false, false, false, false, false, false, false, false, false, false, false, false, false, false, false, false, false, false, false, false, false, false, false, false, false, false, false, false, false, false, false, false, false, false, false, false, false, false, false, false, false, false, false, false, false, false, false, false, false, false, false, false, false, false, false, false, false, false, false, false, false, false, false, false, false, false, false, false, false, false, false, false, false, false, false, false, false, false, false, false, false, false, false, false] (by kernel_rfl) (by kernel_rfl) (by kernel_rfl) ?_
          dsimp only [maskL]
          with_reducible apply FromM.eq
          · intro w' hx; have hc5x := hx.cell hc5; have cax := hx.cell ca; have cbx := hx.cell cb; (try dsimp only [List.nil_append, List.cons_append, DepsL, DepsL1, setO, setN, favs, opsOf]); go_wp2; exact OpPostE.some _ rfl rfl (Ext.refl _) rfl
          with_reducible apply FromM.eq
          · intro w' hx; (try dsimp only [List.nil_append, List.cons_append, DepsL, DepsL1, setO, setN, favs, opsOf]); go_wp2; exact OpPostE.some _ rfl rfl (Ext.refl _) rfl
          with_reducible apply FromM.eq
          · intro w' hx; (try dsimp only [List.nil_append, List.cons_append, DepsL, DepsL1, setO, setN, favs, opsOf]); go_wp2; exact OpPostE.some _ rfl rfl (Ext.refl _) rfl
          with_reducible apply FromM.eq
          · intro w' hx; (try dsimp only [List.nil_append, List.cons_append, DepsL, DepsL1, setO, setN, favs, opsOf]); go_wp2; exact OpPostE.some _ rfl rfl (Ext.refl _) rfl
          with_reducible apply FromM.eq
          · intro w' hx; have hc5x := hx.cell hc5; have cax := hx.cell ca; have cbx := hx.cell cb; (try dsimp only [List.nil_append, List.cons_append, DepsL, DepsL1, setO, setN, favs, opsOf]); go_wp2; exact OpPostE.some _ rfl rfl (Ext.refl _) rfl
          with_reducible apply FromM.eq
          · intro w' hx; (try dsimp only [List.nil_append, List.cons_append, DepsL, DepsL1, setO, setN, favs, opsOf]); refine op_call 59 [.tmp 83, .tmp 87] _ _ _ rfl rfl rfl rfl rfl rfl (fun _ _ => Try.call59 _ _) (RA.out _) (fun e w2 h_ => ?_); obtain ⟨rfl, hb2⟩ := h_; exact ⟨_, rfl, hb2, rfl⟩
          with_reducible apply FromM.eq
          · intro w' hx; (try dsimp only [List.nil_append, List.cons_append, DepsL, DepsL1, setO, setN, favs, opsOf]); go_wp2; exact OpPostE.some _ rfl rfl (Ext.refl _) rfl
          with_reducible apply FromM.eq
          · intro w' hx; (try dsimp only [List.nil_append, List.cons_append, DepsL, DepsL1, setO, setN, favs, opsOf]); go_wp2; exact OpPostE.some _ rfl rfl (Ext.refl _) rfl
          with_reducible apply FromM.eq
          · intro w' hx; (try dsimp only [List.nil_append, List.cons_append, DepsL, DepsL1, setO, setN, favs, opsOf]); go_wp2; exact OpPostE.some _ rfl rfl (Ext.refl _) rfl
          with_reducible apply FromM.eq
          · intro w' hx; have hc5x := hx.cell hc5; have cax := hx.cell ca; have cbx := hx.cell cb; (try dsimp only [List.nil_append, List.cons_append, DepsL, DepsL1, setO, setN, favs, opsOf]); go_wp2; exact OpPostE.some _ rfl rfl (Ext.refl _) rfl
          with_reducible apply FromM.eq
          · intro w' hx; (try dsimp only [List.nil_append, List.cons_append, DepsL, DepsL1, setO, setN, favs, opsOf]); go_wp2; exact OpPostE.some _ rfl rfl (Ext.refl _) rfl
          with_reducible apply FromM.eq
          · intro w' hx; (try dsimp only [List.nil_append, List.cons_append, DepsL, DepsL1, setO, setN, favs, opsOf]); go_wp2; exact OpPostE.some _ rfl rfl (Ext.refl _) rfl
          with_reducible apply FromM.eq
          · intro w' hx; (try dsimp only [List.nil_append, List.cons_append, DepsL, DepsL1, setO, setN, favs, opsOf]); go_wp2; exact OpPostE.some _ rfl rfl (Ext.refl _) rfl
          with_reducible apply FromM.eq
          · intro w' hx; have hc5x := hx.cell hc5; have cax := hx.cell ca; have cbx := hx.cell cb; (try dsimp only [List.nil_append, List.cons_append, DepsL, DepsL1, setO, setN, favs, opsOf]); go_wp2; exact OpPostE.some _ rfl rfl (Ext.refl _) rfl
          -- 14: t97
          with_reducible apply FromM.eq
          · intro w' hx; (try dsimp only [List.nil_append, List.cons_append, DepsL, DepsL1, setO, setN, favs, opsOf]); go_wp2; exact OpPostE.some _ rfl rfl (Ext.refl _) rfl
          with_reducible apply FromM.eq
          · intro w' hx; (try dsimp only [List.nil_append, List.cons_append, DepsL, DepsL1, setO, setN, favs, opsOf]); go_wp2; exact OpPostE.some _ rfl rfl (Ext.refl _) rfl
          with_reducible apply FromM.eq
          · intro w' hx; (try dsimp only [List.nil_append, List.cons_append, DepsL, DepsL1, setO, setN, favs, opsOf]); go_wp2; exact OpPostE.some _ rfl rfl (Ext.refl _) rfl
          with_reducible apply FromM.eq
          · intro w' hx; (try dsimp only [List.nil_append, List.cons_append, DepsL, DepsL1, setO, setN, favs, opsOf]); go_wp2; exact OpPostE.some _ rfl rfl (Ext.refl _) rfl
          with_reducible refine FromM.fin ?_
          intro w' hx
          (try dsimp only [List.nil_append, List.cons_append, EndL, DepsL1, setO, setN])
          have HX := Lib.hid (HX.out.trans hx)
          clear hx
          go_wp2_with fail
          go_roundw
          case rel => exact ⟨j + 1, by go_num, by omega, by rw [E3.out]; go_num, HX.out⟩
          case measure => simp [intOf]; omega
      · obtain rfl : j = N := by omega
        go_wp2_with fail
        go_ret2
        rw [EA3.out]
        exact ⟨rfl, X⟩
  · obtain ⟨x6, cA, cB⟩ := two_alloc w5 #[.int .u64 ry, .slice ya N yc] #[.int .u64 rx, .slice xa N xc] 82
    have dx0 := cB 0 _ rfl
    have dx1 := cB 1 _ rfl
    have dy0 := cA 0 _ rfl
    have dy1 := cA 1 _ rfl
    replace hc5 := x6.cell hc5
    replace h1 := x6.cell h1
    replace X := X.trans x6
    have RX := Lib.hid (RX.out.ext x6)
    have RY := Lib.hid (RY.out.ext x6)
    clear x6 cA cB m0 m1 m2 m3 hg1 hg2 hg3 h0 h2
    obtain ⟨w6, hw6⟩ : ∃ q, q = ((w5.alloc (.cells #[.int .u64 ry, .slice ya N yc] 82)).alloc (.cells #[.int .u64 rx, .slice xa N xc] 82)).drew := ⟨_, rfl⟩
    rw [← hw6] at dx0 dx1 dy0 dy1 hc5 h1 X RX RY
    rw [← hw6]
    clear hw6
    obtain ⟨w5s, hs5⟩ : ∃ q, q = w5.heap.size := ⟨_, rfl⟩
    rw [← hs5] at dx0 dx1 dy0 dy1
    rw [← hs5]
    obtain ⟨w1s, hs1⟩ : ∃ q, q = w1.heap.size := ⟨_, rfl⟩
    rw [← hs1] at hc5
    rw [← hs1]
    clear hs5 hs1
    go_wp2_with fail
    refine region_factsL [[], [], [], [(2, 45)], [], [(4, 47)], [(1, 44), (3, 46), (5, 48)], [(0, 43), (6, 49)], [(7, 50)]] [some 43, some 44, some 45, some 46, some 47, some 48, some 49, some 50, some 15] [false, false, false, false, false, false, false, false, false, false, false, false, true, true, true, false, false, false, false, false, false, false, false, false, false, false, false, false, false, false, false, false, false, false, false, false, false, false, false, false, false, false, false, false, false, false, false, false, false, false, false, false, false, false, false, false, false, false, false, false, false, false, false, false, false, false, false, false, false, false, false, false, false, false, false, false, false, false, false, false, false, false, false, false, false, false, false, false, false, false, false, false, false, false, false, false, false, false, false, false, false, false, false, false, false] (by kernel_rfl) (by kernel_rfl) (by kernel_rfl) ?_
    dsimp only [maskL]
    with_reducible apply FromM.eq
    · intro w' hx; have hc5x := hx.cell hc5; have dx0x := hx.cell dx0; have dy0x := hx.cell dy0; (try dsimp only [List.nil_append, List.cons_append, DepsL, DepsL1, setO, setN, favs, opsOf]); go_wp2; exact OpPostE.some _ rfl rfl (Ext.refl _) rfl
    with_reducible apply FromM.eq
    · intro w' hx; have hc5x := hx.cell hc5; have dx0x := hx.cell dx0; have dy0x := hx.cell dy0; (try dsimp only [List.nil_append, List.cons_append, DepsL, DepsL1, setO, setN, favs, opsOf]); go_wp2; exact OpPostE.some _ rfl rfl (Ext.refl _) rfl
    with_reducible apply FromM.eq
    · intro w' hx; (try dsimp only [List.nil_append, List.cons_append, DepsL, DepsL1, setO, setN, favs, opsOf]); go_wp2; exact OpPostE.some _ rfl rfl (Ext.refl _) rfl
    with_reducible apply FromM.eq
    · intro w' hx; have hc5x := hx.cell hc5; have dx0x := hx.cell dx0; have dy0x := hx.cell dy0; (try dsimp only [List.nil_append, List.cons_append, DepsL, DepsL1, setO, setN, favs, opsOf]); go_wp2; exact OpPostE.some _ rfl rfl (Ext.refl _) rfl
    with_reducible apply FromM.eq
    · intro w' hx; (try dsimp only [List.nil_append, List.cons_append, DepsL, DepsL1, setO, setN, favs, opsOf]); go_wp2; exact OpPostE.some _ rfl rfl (Ext.refl _) rfl
    with_reducible apply FromM.eq
    · intro w' hx; have hc5x := hx.cell hc5; have dx0x := hx.cell dx0; have dy0x := hx.cell dy0; (try dsimp only [List.nil_append, List.cons_append, DepsL, DepsL1, setO, setN, favs, opsOf]); go_wp2; exact OpPostE.some _ rfl rfl (Ext.refl _) rfl
    with_reducible apply FromM.eq
    · intro w' hx; (try dsimp only [List.nil_append, List.cons_append, DepsL, DepsL1, setO, setN, favs, opsOf]); refine op_call 58 [.tmp 44, .tmp 46, .tmp 48] _ _ _ rfl rfl rfl rfl rfl rfl (fun _ _ => Try.call58 _ _) (Sub_c _ _ _ _) (fun e w2 h_ => ?_); obtain ⟨rfl, hb2⟩ := h_; exact ⟨_, rfl, hb2, rfl⟩
    with_reducible apply FromM.eq
    · intro w' hx; (try dsimp only [List.nil_append, List.cons_append, DepsL, DepsL1, setO, setN, favs, opsOf]); refine op_call 57 [.tmp 43, .tmp 49] _ _ _ rfl rfl rfl rfl rfl rfl (fun _ _ => Try.call57 _ _) (Inv_c _ _ _) (fun e w2 h_ => ?_); obtain ⟨rfl, hb2⟩ := h_; exact ⟨_, rfl, hb2, rfl⟩
    with_reducible apply FromM.eq
    · intro w' hx; (try dsimp only [List.nil_append, List.cons_append, DepsL, DepsL1, setO, setN, favs, opsOf]); go_wp2; exact OpPostE.some _ rfl rfl (Ext.refl _) rfl
    with_reducible refine FromM.fin ?_
    intro w' hx
    (try dsimp only [List.nil_append, List.cons_append, EndL, DepsL1, setO, setN])
    replace hc5 := hx.cell hc5
    replace h1 := hx.cell h1
    replace dx0 := hx.cell dx0
    replace dx1 := hx.cell dx1
    replace dy0 := hx.cell dy0
    replace dy1 := hx.cell dy1
    replace X := X.trans hx
    have RX := Lib.hid (RX.out.ext hx)
    have RY := Lib.hid (RY.out.ext hx)
    clear hx
    obtain ⟨w7, hw7⟩ : ∃ q : World, q = w' := ⟨_, rfl⟩
    subst hw7
    go_wp2_with fail
    go_loopw [16, 53] (ApRel p N l m (rx, xw) (ry, yw) w7) (fun _ i _ => N - (intOf i).toNat)
    case atStart => exact ⟨0, rfl, Nat.zero_le _, rfl, Ext.refl _⟩
    case round =>
      obtain ⟨j, rfl, hj, rfl, hext⟩ := hrel
    
      replace hc5 := hext.cell hc5
      replace dx0 := hext.cell dx0
      replace dx1 := hext.cell dx1
      replace dy0 := hext.cell dy0
      replace dy1 := hext.cell dy1
      replace X := X.trans hext
      have HX := Lib.hid hext
      have hq := apC_le p l m (rx, xw) (ry, yw) j
      by_cases hlt : j < N
      · have E1 : Hid (apC p l m (rx, xw) (ry, yw) (j + 1) = apC p l m (rx, xw) (ry, yw) j + if offB p l m (rx, xw) (ry, yw) j = true then 1 else 0) := Lib.hid rfl
        have E2 : Hid (offB p l m (rx, xw) (ry, yw) j = (decide (fred p (l.getD j 0) ≠ fsub p (xw.getD j 0) (fmul p rx (fmul p (fsub p (yw.getD j 0) (xw.getD j 0)) (finv p (fsub p ry rx))))) || decide (fred p (m.getD j 0) ≠ fmul p (fsub p (yw.getD j 0) (xw.getD j 0)) (finv p (fsub p ry rx))))) := Lib.hid rfl
        obtain ⟨gx, ox, rfl, qx⟩ := RX.out.at (by rw [HXL.out.1]; omega)
        obtain ⟨gy, oy, rfl, qy⟩ := RY.out.at (by rw [HYL.out.1]; omega)
        obtain ⟨ga, oa, rfl, qa⟩ := HA.out.at (by rw [HLL.out]; omega)
        obtain ⟨gb, ob, rfl, qb⟩ := HB.out.at (by rw [HML.out]; omega)
        have cx := hext.cell (qx j (by rw [HXL.out.1]; exact hlt))
        have cy := hext.cell (qy j (by rw [HYL.out.1]; exact hlt))
        have ca := X.cell (qa j (by rw [HLL.out]; exact hlt))
        have cb := X.cell (qb j (by rw [HML.out]; exact hlt))
        have la : j < l.length := by rw [HLL.out]; exact hlt
        have lb : j < m.length := by rw [HML.out]; exact hlt
        obtain ⟨Q, hQ⟩ : ∃ q, q = apC p l m (rx, xw) (ry, yw) j := ⟨_, rfl⟩
        obtain ⟨XX, hX0⟩ : ∃ x, x = xw.getD j 0 := ⟨_, rfl⟩
        obtain ⟨YY, hY0⟩ : ∃ x, x = yw.getD j 0 := ⟨_, rfl⟩
        obtain ⟨AA, hA0⟩ : ∃ x, x = l.getD j 0 := ⟨_, rfl⟩
        obtain ⟨BB, hB0⟩ : ∃ x, x = m.getD j 0 := ⟨_, rfl⟩
        rw [← hQ] at hq E1
        rw [← hQ]
        rw [← hX0] at cx E2
        rw [← hY0] at cy E2
        rw [← hA0] at ca E2
        rw [← hB0] at cb E2
        clear hX0 hY0 hA0 hB0 qx qy qa qb hext hQ
        go_wp2_with fail
        refine region_factsL [[], [], [], [(2, 58)], [], [(3, 59), (4, 60)], [(5, 61)], [], [(7, 63)], [], [(8, 64), (9, 65)], [(10, 66)], [(1, 57), (6, 62), (11, 67)], [], [(0, 56), (12, 68), (13, 69)], [(14, 70)]] [some 56, some 57, some 58, some 59, some 60, some 61, some 62, some 63, some 64, some 65, some 66, some 67, some 68, some 69, some 70, some 18] [false, false, false, false, false, false, false, false, false, false, false, false, true, true, true, true, false, true, false, false, false, false, false, false, false, false, false, false, false, false, false, false, false, false, false, false, false, false, false, false, false, false, false, false, false, false, false, false, false, false, false, false, false, false, false, false, false, false, false, false, false, false, false, false, false, false, false, false, false, false, false, false, false, false, false, false, false, false, false, false, false, false, false, false, false, false, false, false, false, false, false, false, false, false, false, false, false, false, false, false, false, false, false, false, false] (by kernel_rfl) (by kernel_rfl) (by kernel_rfl) ?_
        dsimp only [maskL]
        with_reducible apply FromM.eq
        · intro w' hx; have hc5x := hx.cell hc5; have dx1x := hx.cell dx1; have dy1x := hx.cell dy1; have cxx := hx.cell cx; have cyx := hx.cell cy; (try dsimp only [List.nil_append, List.cons_append, DepsL, DepsL1, setO, setN, favs, opsOf]); go_wp2; exact OpPostE.some _ rfl rfl (Ext.refl _) rfl
        with_reducible apply FromM.eq
        · intro w' hx; have hc5x := hx.cell hc5; have dx1x := hx.cell dx1; have dy1x := hx.cell dy1; have cxx := hx.cell cx; have cyx := hx.cell cy; (try dsimp only [List.nil_append, List.cons_append, DepsL, DepsL1, setO, setN, favs, opsOf]); go_wp2; exact OpPostE.some _ rfl rfl (Ext.refl _) rfl
        with_reducible apply FromM.eq
        · intro w' hx; (try dsimp only [List.nil_append, List.cons_append, DepsL, DepsL1, setO, setN, favs, opsOf]); go_wp2; exact OpPostE.some _ rfl rfl (Ext.refl _) rfl
        with_reducible apply FromM.eq
        · intro w' hx; have hc5x := hx.cell hc5; have dx1x := hx.cell dx1; have dy1x := hx.cell dy1; have cxx := hx.cell cx; have cyx := hx.cell cy; (try dsimp only [List.nil_append, List.cons_append, DepsL, DepsL1, setO, setN, favs, opsOf]); go_wp2; exact OpPostE.some _ rfl rfl (Ext.refl _) rfl
        with_reducible apply FromM.eq
        · intro w' hx; (try dsimp only [List.nil_append, List.cons_append, DepsL, DepsL1, setO, setN, favs, opsOf]); go_wp2; exact OpPostE.some _ rfl rfl (Ext.refl _) rfl
        with_reducible apply FromM.eq
        · intro w' hx; (try dsimp only [List.nil_append, List.cons_append, DepsL, DepsL1, setO, setN, favs, opsOf]); go_wp2; exact OpPostE.some _ rfl rfl (Ext.refl _) rfl
        with_reducible apply FromM.eq
        · intro w' hx; have hc5x := hx.cell hc5; have dx1x := hx.cell dx1; have dy1x := hx.cell dy1; have cxx := hx.cell cx; have cyx := hx.cell cy; (try dsimp only [List.nil_append, List.cons_append, DepsL, DepsL1, setO, setN, favs, opsOf]); go_wp2; exact OpPostE.some _ rfl rfl (Ext.refl _) rfl
        with_reducible apply FromM.eq
        · intro w' hx; (try dsimp only [List.nil_append, List.cons_append, DepsL, DepsL1, setO, setN, favs, opsOf]); go_wp2; exact OpPostE.some _ rfl rfl (Ext.refl _) rfl
        with_reducible apply FromM.eq
        · intro w' hx; have hc5x := hx.cell hc5; have dx1x := hx.cell dx1; have dy1x := hx.cell dy1; have cxx := hx.cell cx; have cyx := hx.cell cy; (try dsimp only [List.nil_append, List.cons_append, DepsL, DepsL1, setO, setN, favs, opsOf]); go_wp2; exact OpPostE.some _ rfl rfl (Ext.refl _) rfl
        with_reducible apply FromM.eq
        · intro w' hx; (try dsimp only [List.nil_append, List.cons_append, DepsL, DepsL1, setO, setN, favs, opsOf]); go_wp2; exact OpPostE.some _ rfl rfl (Ext.refl _) rfl
        with_reducible apply FromM.eq
        · intro w' hx; (try dsimp only [List.nil_append, List.cons_append, DepsL, DepsL1, setO, setN, favs, opsOf]); go_wp2; exact OpPostE.some _ rfl rfl (Ext.refl _) rfl
        with_reducible apply FromM.eq
        · intro w' hx; have hc5x := hx.cell hc5; have dx1x := hx.cell dx1; have dy1x := hx.cell dy1; have cxx := hx.cell cx; have cyx := hx.cell cy; (try dsimp only [List.nil_append, List.cons_append, DepsL, DepsL1, setO, setN, favs, opsOf]); go_wp2; exact OpPostE.some _ rfl rfl (Ext.refl _) rfl
        with_reducible apply FromM.eq
        · intro w' hx; (try dsimp only [List.nil_append, List.cons_append, DepsL, DepsL1, setO, setN, favs, opsOf]); refine op_call 58 [.tmp 57, .tmp 62, .tmp 67] _ _ _ rfl rfl rfl rfl rfl rfl (fun _ _ => Try.call58 _ _) (Sub_c _ _ _ _) (fun e w2 h_ => ?_); obtain ⟨rfl, hb2⟩ := h_; exact ⟨_, rfl, hb2, rfl⟩
        with_reducible apply FromM.eq
        · intro w' hx; (try dsimp only [List.nil_append, List.cons_append, DepsL, DepsL1, setO, setN, favs, opsOf]); go_wp2; exact OpPostE.some _ rfl rfl (Ext.refl _) rfl
        with_reducible apply FromM.eq
        · intro w' hx; (try dsimp only [List.nil_append, List.cons_append, DepsL, DepsL1, setO, setN, favs, opsOf]); refine op_call 44 [.tmp 56, .tmp 68, .tmp 69] _ _ _ rfl rfl rfl rfl rfl rfl (fun _ _ => Try.call44 _ _) (Mul_c _ _ _ _) (fun e w2 h_ => ?_); obtain ⟨rfl, hb2⟩ := h_; exact ⟨_, rfl, hb2, rfl⟩
        with_reducible apply FromM.eq
        · intro w' hx; (try dsimp only [List.nil_append, List.cons_append, DepsL, DepsL1, setO, setN, favs, opsOf]); go_wp2; exact OpPostE.some _ rfl rfl (Ext.refl _) rfl
        with_reducible refine FromM.fin ?_
        intro w' hx
        (try dsimp only [List.nil_append, List.cons_append, EndL, DepsL1, setO, setN])
        replace hc5 := hx.cell hc5
        replace dx0 := hx.cell dx0
        replace dx1 := hx.cell dx1
        replace cx := hx.cell cx
        replace ca := hx.cell ca
        replace cb := hx.cell cb
        have HX := Lib.hid (HX.out.trans hx)
        clear hx
        obtain ⟨w8, hw8⟩ : ∃ q : World, q = w' := ⟨_, rfl⟩
        subst hw8
        go_wp2_with fail
        refine region_factsL [[], [], [(1, 72)], [], [(2, 73), (3, 74)], [(4, 75)], [], [], [(7, 78)], [], [(6, 77), (8, 79), (9, 80)], [(0, 71), (5, 76), (10, 81)], [(11, 82)]] [some 71, some 72, some 73, some 74, some 75, some 76, some 77, some 78, some 79, some 80, some 81, some 82, some 19] [false, false, false, false, false, false, false, false, false, false, false, false, true, true, false, false, false, true, true, false, false, false, false, false, false, false, false, false, false, false, false, false, false, false, false, false, false, false, false, false, false, false, false, false, false, false, false, false, false, false, false, false, false, false, false, false, false, false, false, false, false, false, false, false, false, false, false, false, false, false, false, false, false, false, false, false, false, false, false, false, false, false, false, false, false, false, false, false, false, false, false, false, false, false, false, false, false, false, false, false, false, false, false, false, false] (by kernel_rfl) (by kernel_rfl) (by kernel_rfl) ?_
        dsimp only [maskL]
        with_reducible apply FromM.eq
        · intro w' hx; have hc5x := hx.cell hc5; have dx1x := hx.cell dx1; have dx0x := hx.cell dx0; have cxx := hx.cell cx; (try dsimp only [List.nil_append, List.cons_append, DepsL, DepsL1, setO, setN, favs, opsOf]); go_wp2; exact OpPostE.some _ rfl rfl (Ext.refl _) rfl
        with_reducible apply FromM.eq
        · intro w' hx; (try dsimp only [List.nil_append, List.cons_append, DepsL, DepsL1, setO, setN, favs, opsOf]); go_wp2; exact OpPostE.some _ rfl rfl (Ext.refl _) rfl
        with_reducible apply FromM.eq
        · intro w' hx; have hc5x := hx.cell hc5; have dx1x := hx.cell dx1; have dx0x := hx.cell dx0; have cxx := hx.cell cx; (try dsimp only [List.nil_append, List.cons_append, DepsL, DepsL1, setO, setN, favs, opsOf]); go_wp2; exact OpPostE.some _ rfl rfl (Ext.refl _) rfl
        with_reducible apply FromM.eq
        · intro w' hx; (try dsimp only [List.nil_append, List.cons_append, DepsL, DepsL1, setO, setN, favs, opsOf]); go_wp2; exact OpPostE.some _ rfl rfl (Ext.refl _) rfl
        with_reducible apply FromM.eq
        · intro w' hx; (try dsimp only [List.nil_append, List.cons_append, DepsL, DepsL1, setO, setN, favs, opsOf]); go_wp2; exact OpPostE.some _ rfl rfl (Ext.refl _) rfl
        with_reducible apply FromM.eq
        · intro w' hx; have hc5x := hx.cell hc5; have dx1x := hx.cell dx1; have dx0x := hx.cell dx0; have cxx := hx.cell cx; (try dsimp only [List.nil_append, List.cons_append, DepsL, DepsL1, setO, setN, favs, opsOf]); go_wp2; exact OpPostE.some _ rfl rfl (Ext.refl _) rfl
        with_reducible apply FromM.eq
        · intro w' hx; have hc5x := hx.cell hc5; have dx1x := hx.cell dx1; have dx0x := hx.cell dx0; have cxx := hx.cell cx; (try dsimp only [List.nil_append, List.cons_append, DepsL, DepsL1, setO, setN, favs, opsOf]); go_wp2; exact OpPostE.some _ rfl rfl (Ext.refl _) rfl
        with_reducible apply FromM.eq
        · intro w' hx; (try dsimp only [List.nil_append, List.cons_append, DepsL, DepsL1, setO, setN, favs, opsOf]); go_wp2; exact OpPostE.some _ rfl rfl (Ext.refl _) rfl
        with_reducible apply FromM.eq
        · intro w' hx; have hc5x := hx.cell hc5; have dx1x := hx.cell dx1; have dx0x := hx.cell dx0; have cxx := hx.cell cx; (try dsimp only [List.nil_append, List.cons_append, DepsL, DepsL1, setO, setN, favs, opsOf]); go_wp2; exact OpPostE.some _ rfl rfl (Ext.refl _) rfl
        with_reducible apply FromM.eq
        · intro w' hx; (try dsimp only [List.nil_append, List.cons_append, DepsL, DepsL1, setO, setN, favs, opsOf]); go_wp2; exact OpPostE.some _ rfl rfl (Ext.refl _) rfl
        with_reducible apply FromM.eq
        · intro w' hx; (try dsimp only [List.nil_append, List.cons_append, DepsL, DepsL1, setO, setN, favs, opsOf]); refine op_call 44 [.tmp 77, .tmp 79, .tmp 80] _ _ _ rfl rfl rfl rfl rfl rfl (fun _ _ => Try.call44 _ _) (Mul_c _ _ _ _) (fun e w2 h_ => ?_); obtain ⟨rfl, hb2⟩ := h_; exact ⟨_, rfl, hb2, rfl⟩
        with_reducible apply FromM.eq
        · intro w' hx; (try dsimp only [List.nil_append, List.cons_append, DepsL, DepsL1, setO, setN, favs, opsOf]); refine op_call 58 [.tmp 71, .tmp 76, .tmp 81] _ _ _ rfl rfl rfl rfl rfl rfl (fun _ _ => Try.call58 _ _) (Sub_c _ _ _ _) (fun e w2 h_ => ?_); obtain ⟨rfl, hb2⟩ := h_; exact ⟨_, rfl, hb2, rfl⟩
        with_reducible apply FromM.eq
        · intro w' hx; (try dsimp only [List.nil_append, List.cons_append, DepsL, DepsL1, setO, setN, favs, opsOf]); go_wp2; exact OpPostE.some _ rfl rfl (Ext.refl _) rfl
        with_reducible refine FromM.fin ?_
        intro w' hx
        (try dsimp only [List.nil_append, List.cons_append, EndL, DepsL1, setO, setN])
        replace hc5 := hx.cell hc5
        replace ca := hx.cell ca
        replace cb := hx.cell cb
        have HX := Lib.hid (HX.out.trans hx)
        clear hx
        obtain ⟨w9, hw9⟩ : ∃ q : World, q = w' := ⟨_, rfl⟩
        subst hw9
        obtain ⟨SL, hSL⟩ : ∃ q, q = fmul p (fsub p YY XX) (finv p (fsub p ry rx)) := ⟨_, rfl⟩
        rw [← hSL] at E2
        rw [← hSL]
        obtain ⟨ST, hST⟩ : ∃ q, q = fsub p XX (fmul p rx SL) := ⟨_, rfl⟩
        rw [← hST] at E2
        rw [← hST]
        obtain ⟨FA, hFA⟩ : ∃ q, q = fred p AA := ⟨_, rfl⟩
        obtain ⟨FB, hFB⟩ : ∃ q, q = fred p BB := ⟨_, rfl⟩
        rw [← hFA, ← hFB] at E2
        have RA : Hid (∀ w, Calls Try.prog 59 #[.agg #[.int .u64 p], .int .u64 AA] w fun e w' => e = .returned (.int .u64 (FA : Int)) ∧ Ext w w') := Lib.hid (fun w => by rw [hFA]; exact Reduce_c p AA w)
        have RB : Hid (∀ w, Calls Try.prog 59 #[.agg #[.int .u64 p], .int .u64 BB] w fun e w' => e = .returned (.int .u64 (FB : Int)) ∧ Ext w w') := Lib.hid (fun w => by rw [hFB]; exact Reduce_c p BB w)
        clear hSL hST hFA hFB cx dx0 dx1 dy0 dy1
        by_cases qA : FA = ST
        · have t1 : ((FA : Int) != (ST : Int)) = false := by rw [qA]; simp
          by_cases qB : FB = SL
          · have t2 : ((FB : Int) != (SL : Int)) = false := by rw [qB]; simp
            have E3 : Hid (apC p l m (rx, xw) (ry, yw) (j + 1) = Q) := Lib.hid (by rw [E1.out, E2.out, if_neg (by simp [qA, qB]), Nat.add_zero])
            clear qA qB
            go_wp2_with fail
            refine region_factsL [[], [], [], [(1, 84), (2, 85)], [(3, 86)], [(0, 83), (4, 87)], [], [(5, 88), (6, 89)], [(7, 90)], [(8, 91)], [(8, 91)], [(8, 91)], [(10, 93), (11, 94), (8, 91)], [(12, 95), (8, 91)], [(9, 92), (13, 96), (8, 91)], [(8, 91)], [(14, 97), (15, 98), (8, 91)], [(8, 91), (16, 99)]] [some 83, some 84, some 85, some 86, some 87, some 88, some 89, some 90, some 91, some 92, some 93, some 94, some 95, some 96, some 97, some 98, some 99, some 100] [false, true, true, false, false, false, false, false, false, false, false, false, true, false, false, false, false, true, true, true, false, false, false, false, false, false, false, false, false, false, false, false, false, false, false, false, false, false, false, false, false, false, false, false, false, false, false, false, false, false, false, false, false, false, false, false, false, false, false, false, false, false, false, false, false, false, false, false, false, false, false, false, false, false, false, false, false, false, false, false, false, false, false, false, false, false, false, false, false, false, false, false, false, false, false, false, false, false, false, false, false, false, false, false, false] (by kernel_rfl) (by kernel_rfl) (by kernel_rfl) ?_
            dsimp only [maskL]
            with_reducible apply FromM.eq
            · intro w' hx; have hc5x := hx.cell hc5; have cax := hx.cell ca; have cbx := hx.cell cb; (try dsimp only [List.nil_append, List.cons_append, DepsL, DepsL1, setO, setN, favs, opsOf]); go_wp2; exact OpPostE.some _ rfl rfl (Ext.refl _) rfl
            with_reducible apply FromM.eq
            · intro w' hx; (try dsimp only [List.nil_append, List.cons_append, DepsL, DepsL1, setO, setN, favs, opsOf]); go_wp2; exact OpPostE.some _ rfl rfl (Ext.refl _) rfl
            with_reducible apply FromM.eq
            · intro w' hx; (try dsimp only [List.nil_append, List.cons_append, DepsL, DepsL1, setO, setN, favs, opsOf]); go_wp2; exact OpPostE.some _ rfl rfl (Ext.refl _) rfl
            with_reducible apply FromM.eq
            · intro w' hx; (try dsimp only [List.nil_append, List.cons_append, DepsL, DepsL1, setO, setN, favs, opsOf]); go_wp2; exact OpPostE.some _ rfl rfl (Ext.refl _) rfl
            with_reducible apply FromM.eq
            · intro w' hx; have hc5x := hx.cell hc5; have cax := hx.cell ca; have cbx := hx.cell cb; (try dsimp only [List.nil_append, List.cons_append, DepsL, DepsL1, setO, setN, favs, opsOf]); go_wp2; exact OpPostE.some _ rfl rfl (Ext.refl _) rfl
            with_reducible apply FromM.eq
            · intro w' hx; (try dsimp only [List.nil_append, List.cons_append, DepsL, DepsL1, setO, setN, favs, opsOf]); refine op_call 59 [.tmp 83, .tmp 87] _ _ _ rfl rfl rfl rfl rfl rfl (fun _ _ => Try.call59 _ _) (RA.out _) (fun e w2 h_ => ?_); obtain ⟨rfl, hb2⟩ := h_; exact ⟨_, rfl, hb2, rfl⟩
            with_reducible apply FromM.eq
            · intro w' hx; (try dsimp only [List.nil_append, List.cons_append, DepsL, DepsL1, setO, setN, favs, opsOf]); go_wp2; exact OpPostE.some _ rfl rfl (Ext.refl _) rfl
            with_reducible apply FromM.eq
            · intro w' hx; (try dsimp only [List.nil_append, List.cons_append, DepsL, DepsL1, setO, setN, favs, opsOf]); go_wp2; exact OpPostE.some _ rfl rfl (Ext.refl _) rfl
            with_reducible apply FromM.eq
            · intro w' hx; (try dsimp only [List.nil_append, List.cons_append, DepsL, DepsL1, setO, setN, favs, opsOf]); go_wp2; exact OpPostE.some _ rfl rfl (Ext.refl _) rfl
            with_reducible apply FromM.eq
            · intro w' hx; have hc5x := hx.cell hc5; have cax := hx.cell ca; have cbx := hx.cell cb; (try dsimp only [List.nil_append, List.cons_append, DepsL, DepsL1, setO, setN, favs, opsOf]); go_wp2; exact OpPostE.some _ rfl rfl (Ext.refl _) rfl
            with_reducible apply FromM.eq
            · intro w' hx; (try dsimp only [List.nil_append, List.cons_append, DepsL, DepsL1, setO, setN, favs, opsOf]); go_wp2; exact OpPostE.some _ rfl rfl (Ext.refl _) rfl
            with_reducible apply FromM.eq
            · intro w' hx; (try dsimp only [List.nil_append, List.cons_append, DepsL, DepsL1, setO, setN, favs, opsOf]); go_wp2; exact OpPostE.some _ rfl rfl (Ext.refl _) rfl
            with_reducible apply FromM.eq
            · intro w' hx; (try dsimp only [List.nil_append, List.cons_append, DepsL, DepsL1, setO, setN, favs, opsOf]); go_wp2; exact OpPostE.some _ rfl rfl (Ext.refl _) rfl
            with_reducible apply FromM.eq
            · intro w' hx; have hc5x := hx.cell hc5; have cax := hx.cell ca; have cbx := hx.cell cb; (try dsimp only [List.nil_append, List.cons_append, DepsL, DepsL1, setO, setN, favs, opsOf]); go_wp2; exact OpPostE.some _ rfl rfl (Ext.refl _) rfl
            with_reducible apply FromM.eq
            · intro w' hx; (try dsimp only [List.nil_append, List.cons_append, DepsL, DepsL1, setO, setN, favs, opsOf]); go_wp2_with (go_at_call 59; refine (RB.out _).mono ?_; rintro e w2 ⟨rfl, hb2⟩); exact OpPostE.some _ rfl rfl hb2 rfl
            with_reducible apply FromM.eq
            · intro w' hx; (try dsimp only [List.nil_append, List.cons_append, DepsL, DepsL1, setO, setN, favs, opsOf]); go_wp2; exact OpPostE.some _ rfl rfl (Ext.refl _) rfl
            with_reducible apply FromM.eq
            · intro w' hx; (try dsimp only [List.nil_append, List.cons_append, DepsL, DepsL1, setO, setN, favs, opsOf]); go_wp2; exact OpPostE.some _ rfl rfl (Ext.refl _) rfl
            with_reducible apply FromM.eq
            · intro w' hx; (try dsimp only [List.nil_append, List.cons_append, DepsL, DepsL1, setO, setN, favs, opsOf]); go_wp2; exact OpPostE.some _ rfl rfl (Ext.refl _) rfl
            with_reducible refine FromM.fin ?_
            intro w' hx
            (try dsimp only [List.nil_append, List.cons_append, EndL, DepsL1, setO, setN])
            have HX := Lib.hid (HX.out.trans hx)
            clear hx
            go_wp2_with fail
            go_roundw
            case rel => exact ⟨j + 1, by go_num, by omega, by rw [E3.out], HX.out⟩
            case measure => simp [intOf]; omega
          · have t2 : ((FB : Int) != (SL : Int)) = true := bne_iff_ne.2 (by omega)
            have E3 : Hid (apC p l m (rx, xw) (ry, yw) (j + 1) = Q + 1) := Lib.hid (by rw [E1.out, E2.out, if_pos (by simp [qB])])
            clear qA qB
            go_wp2_with fail
            refine region_factsL [[], [], [], [(1, 84), (2, 85)], [(3, 86)], [(0, 83), (4, 87)], [], [(5, 88), (6, 89)], [(7, 90)], [(8, 91)], [(8, 91)], [(8, 91)], [(10, 93), (11, 94), (8, 91)], [(12, 95), (8, 91)], [(9, 92), (13, 96), (8, 91)], [(8, 91)], [(14, 97), (15, 98), (8, 91)], [(8, 91), (16, 99)]] [some 83, some 84, some 85, some 86, some 87, some 88, some 89, some 90, some 91, some 92, some 93, some 94, some 95, some 96, some 97, some 98, some 99, some 100] [false, true, true, false, false, false, false, false, false, false, false, false, true, false, false, false, false, true, true, true, false, false, false, false, false, false, false, false, false, false, false, false, false, false, false, false, false, false, false, false, false, false, false, false, false, false, false, false, false, false, false, false, false, false, false, false, false, false, false, false, false, false, false, false, false, false, false, false, false, false, false, false, false, false, false, false, false, false, false, false, false, false, false, false, false, false, false, false, false, false, false, false, false, false, false, false, false, false, false, false, false, false, false, false, false] (by kernel_rfl) (by kernel_rfl) (by kernel_rfl) ?_
            dsimp only [maskL]
            with_reducible apply FromM.eq
            · intro w' hx; have hc5x := hx.cell hc5; have cax := hx.cell ca; have cbx := hx.cell cb; (try dsimp only [List.nil_append, List.cons_append, DepsL, DepsL1, setO, setN, favs, opsOf]); go_wp2; exact OpPostE.some _ rfl rfl (Ext.refl _) rfl
            with_reducible apply FromM.eq
            · intro w' hx; (try dsimp only [List.nil_append, List.cons_append, DepsL, DepsL1, setO, setN, favs, opsOf]); go_wp2; exact OpPostE.some _ rfl rfl (Ext.refl _) rfl
            with_reducible apply FromM.eq
            · intro w' hx; (try dsimp only [List.nil_append, List.cons_append, DepsL, DepsL1, setO, setN, favs, opsOf]); go_wp2; exact OpPostE.some _ rfl rfl (Ext.refl _) rfl
            with_reducible apply FromM.eq
            · intro w' hx; (try dsimp only [List.nil_append, List.cons_append, DepsL, DepsL1, setO, setN, favs, opsOf]); go_wp2; exact OpPostE.some _ rfl rfl (Ext.refl _) rfl
            with_reducible apply FromM.eq
            · intro w' hx; have hc5x := hx.cell hc5; have cax := hx.cell ca; have cbx := hx.cell cb; (try dsimp only [List.nil_append, List.cons_append, DepsL, DepsL1, setO, setN, favs, opsOf]); go_wp2; exact OpPostE.some _ rfl rfl (Ext.refl _) rfl
            with_reducible apply FromM.eq
            · intro w' hx; (try dsimp only [List.nil_append, List.cons_append, DepsL, DepsL1, setO, setN, favs, opsOf]); refine op_call 59 [.tmp 83, .tmp 87] _ _ _ rfl rfl rfl rfl rfl rfl (fun _ _ => Try.call59 _ _) (RA.out _) (fun e w2 h_ => ?_); obtain ⟨rfl, hb2⟩ := h_; exact ⟨_, rfl, hb2, rfl⟩
            with_reducible apply FromM.eq
            · intro w' hx; (try dsimp only [List.nil_append, List.cons_append, DepsL, DepsL1, setO, setN, favs, opsOf]); go_wp2; exact OpPostE.some _ rfl rfl (Ext.refl _) rfl
            with_reducible apply FromM.eq
            · intro w' hx; (try dsimp only [List.nil_append, List.cons_append, DepsL, DepsL1, setO, setN, favs, opsOf]); go_wp2; exact OpPostE.some _ rfl rfl (Ext.refl _) rfl
            with_reducible apply FromM.eq
            · intro w' hx; (try dsimp only [List.nil_append, List.cons_append, DepsL, DepsL1, setO, setN, favs, opsOf]); go_wp2; exact OpPostE.some _ rfl rfl (Ext.refl _) rfl
            with_reducible apply FromM.eq
            · intro w' hx; have hc5x := hx.cell hc5; have cax := hx.cell ca; have cbx := hx.cell cb; (try dsimp only [List.nil_append, List.cons_append, DepsL, DepsL1, setO, setN, favs, opsOf]); go_wp2; exact OpPostE.some _ rfl rfl (Ext.refl _) rfl
            with_reducible apply FromM.eq
            · intro w' hx; (try dsimp only [List.nil_append, List.cons_append, DepsL, DepsL1, setO, setN, favs, opsOf]); go_wp2; exact OpPostE.some _ rfl rfl (Ext.refl _) rfl
            with_reducible apply FromM.eq
            · intro w' hx; (try dsimp only [List.nil_append, List.cons_append, DepsL, DepsL1, setO, setN, favs, opsOf]); go_wp2; exact OpPostE.some _ rfl rfl (Ext.refl _) rfl
            with_reducible apply FromM.eq
            · intro w' hx; (try dsimp only [List.nil_append, List.cons_append, DepsL, DepsL1, setO, setN, favs, opsOf]); go_wp2; exact OpPostE.some _ rfl rfl (Ext.refl _) rfl
            with_reducible apply FromM.eq
            · intro w' hx; have hc5x := hx.cell hc5; have cax := hx.cell ca; have cbx := hx.cell cb; (try dsimp only [List.nil_append, List.cons_append, DepsL, DepsL1, setO, setN, favs, opsOf]); go_wp2; exact OpPostE.some _ rfl rfl (Ext.refl _) rfl
            with_reducible apply FromM.eq
            · intro w' hx; (try dsimp only [List.nil_append, List.cons_append, DepsL, DepsL1, setO, setN, favs, opsOf]); go_wp2_with (go_at_call 59; refine (RB.out _).mono ?_; rintro e w2 ⟨rfl, hb2⟩); exact OpPostE.some _ rfl rfl hb2 rfl
            with_reducible apply FromM.eq
            · intro w' hx; (try dsimp only [List.nil_append, List.cons_append, DepsL, DepsL1, setO, setN, favs, opsOf]); go_wp2; exact OpPostE.some _ rfl rfl (Ext.refl _) rfl
            with_reducible apply FromM.eq
            · intro w' hx; (try dsimp only [List.nil_append, List.cons_append, DepsL, DepsL1, setO, setN, favs, opsOf]); go_wp2; exact OpPostE.some _ rfl rfl (Ext.refl _) rfl
            with_reducible apply FromM.eq
            · intro w' hx; (try dsimp only [List.nil_append, List.cons_append, DepsL, DepsL1, setO, setN, favs, opsOf]); go_wp2; exact OpPostE.some _ rfl rfl (Ext.refl _) rfl
            with_reducible refine FromM.fin ?_
            intro w' hx
            (try dsimp only [List.nil_append, List.cons_append, EndL, DepsL1, setO, setN])
            have HX := Lib.hid (HX.out.trans hx)
            clear hx
            go_wp2_with fail
            go_roundw
            case rel => exact ⟨j + 1, by go_num, by omega, by rw [E3.out]; go_num, HX.out⟩
            case measure => simp [intOf]; omega
        · have t1 : ((FA : Int) != (ST : Int)) = true := bne_iff_ne.2 (by omega)
          have E3 : Hid (apC p l m (rx, xw) (ry, yw) (j + 1) = Q + 1) := Lib.hid (by rw [E1.out, E2.out, if_pos (by simp [qA])])
          clear qA
          go_wp2_with fail
          refine region_factsL [[], [], [], [(1, 84), (2, 85)], [(3, 86)], [(0, 83), (4, 87)], [], [(5, 88), (6, 89)], [(7, 90)], [(8, 91)], [(8, 91)], [(8, 91)], [(10, 93), (11, 94), (8, 91)], [(12, 95), (8, 91)], [(9, 92), (13, 96), (8, 91)], [(8, 91)], [(14, 97), (15, 98), (8, 91)], [(8, 91), (16, 99)]] [some 83, some 84, some 85, some 86, some 87, some 88, some 89, some 90, some 91, some 92, some 93, some 94, some 95, some 96, some 97, some 98, some 99, some 100] [false, true, true, false, false, false, false, false, false, false, false, false, true, false, false, false, false, true, true, true, false, false, false, false, false, false, false, false, false, false, false, false, false, false, false, false, false, false, false, false, false, false, false, false, false, false, false, false, false, false, false, false, false, false, false, false, false, false, false, false, false, false, false, false, false, false, false, false, false, false, false, false, false, false, false, false, false, false, false, false, false, false, false, false, false, false, false, false, false, false, false, false, false, false, false, false, false, false, false, false, false, false, false, false, false] (by kernel_rfl) (by kernel_rfl) (by kernel_rfl) ?_
          dsimp only [maskL]
          with_reducible apply FromM.eq
          · intro w' hx; have hc5x := hx.cell hc5; have cax := hx.cell ca; have cbx := hx.cell cb; (try dsimp only [List.nil_append, List.cons_append, DepsL, DepsL1, setO, setN, favs, opsOf]); go_wp2; exact OpPostE.some _ rfl rfl (Ext.refl _) rfl
          with_reducible apply FromM.eq
          · intro w' hx; (try dsimp only [List.nil_append, List.cons_append, DepsL, DepsL1, setO, setN, favs, opsOf]); go_wp2; exact OpPostE.some _ rfl rfl (Ext.refl _) rfl
          with_reducible apply FromM.eq
          · intro w' hx; (try dsimp only [List.nil_append, List.cons_append, DepsL, DepsL1, setO, setN, favs, opsOf]); go_wp2; exact OpPostE.some _ rfl rfl (Ext.refl _) rfl
          with_reducible apply FromM.eq
          · intro w' hx; (try dsimp only [List.nil_append, List.cons_append, DepsL, DepsL1, setO, setN, favs, opsOf]); go_wp2; exact OpPostE.some _ rfl rfl (Ext.refl _) rfl
          with_reducible apply FromM.eq
          · intro w' hx; have hc5x := hx.cell hc5; have cax := hx.cell ca; have cbx := hx.cell cb; (try dsimp only [List.nil_append, List.cons_append, DepsL, DepsL1, setO, setN, favs, opsOf]); go_wp2; exact OpPostE.some _ rfl rfl (Ext.refl _) rfl
          with_reducible apply FromM.eq
          · intro w' hx; (try dsimp only [List.nil_append, List.cons_append, DepsL, DepsL1, setO, setN, favs, opsOf]); refine op_call 59 [.tmp 83, .tmp 87] _ _ _ rfl rfl rfl rfl rfl rfl (fun _ _ => Try.call59 _ _) (RA.out _) (fun e w2 h_ => ?_); obtain ⟨rfl, hb2⟩ := h_; exact ⟨_, rfl, hb2, rfl⟩
          with_reducible apply FromM.eq
          · intro w' hx; (try dsimp only [List.nil_append, List.cons_append, DepsL, DepsL1, setO, setN, favs, opsOf]); go_wp2; exact OpPostE.some _ rfl rfl (Ext.refl _) rfl
          with_reducible apply FromM.eq
          · intro w' hx; (try dsimp only [List.nil_append, List.cons_append, DepsL, DepsL1, setO, setN, favs, opsOf]); go_wp2; exact OpPostE.some _ rfl rfl (Ext.refl _) rfl
          with_reducible apply FromM.eq
          · intro w' hx; (try dsimp only [List.nil_append, List.cons_append, DepsL, DepsL1, setO, setN, favs, opsOf]); go_wp2; exact OpPostE.some _ rfl rfl (Ext.refl _) rfl
          with_reducible apply FromM.eq
          · intro w' hx; have hc5x := hx.cell hc5; have cax := hx.cell ca; have cbx := hx.cell cb; (try dsimp only [List.nil_append, List.cons_append, DepsL, DepsL1, setO, setN, favs, opsOf]); go_wp2; exact OpPostE.some _ rfl rfl (Ext.refl _) rfl
          with_reducible apply FromM.eq
          · intro w' hx; (try dsimp only [List.nil_append, List.cons_append, DepsL, DepsL1, setO, setN, favs, opsOf]); go_wp2; exact OpPostE.some _ rfl rfl (Ext.refl _) rfl
          with_reducible apply FromM.eq
          · intro w' hx; (try dsimp only [List.nil_append, List.cons_append, DepsL, DepsL1, setO, setN, favs, opsOf]); go_wp2; exact OpPostE.some _ rfl rfl (Ext.refl _) rfl
          with_reducible apply FromM.eq
          · intro w' hx; (try dsimp only [List.nil_append, List.cons_append, DepsL, DepsL1, setO, setN, favs, opsOf]); go_wp2; exact OpPostE.some _ rfl rfl (Ext.refl _) rfl
          with_reducible apply FromM.eq
          · intro w' hx; have hc5x := hx.cell hc5; have cax := hx.cell ca; have cbx := hx.cell cb; (try dsimp only [List.nil_append, List.cons_append, DepsL, DepsL1, setO, setN, favs, opsOf]); go_wp2; exact OpPostE.some _ rfl rfl (Ext.refl _) rfl
          -- 14: t97
          with_reducible apply FromM.eq
          · intro w' hx; (try dsimp only [List.nil_append, List.cons_append, DepsL, DepsL1, setO, setN, favs, opsOf]); go_wp2; exact OpPostE.some _ rfl rfl (Ext.refl _) rfl
          with_reducible apply FromM.eq
          · intro w' hx; (try dsimp only [List.nil_append, List.cons_append, DepsL, DepsL1, setO, setN, favs, opsOf]); go_wp2; exact OpPostE.some _ rfl rfl (Ext.refl _) rfl
          with_reducible apply FromM.eq
          · intro w' hx; (try dsimp only [List.nil_append, List.cons_append, DepsL, DepsL1, setO, setN, favs, opsOf]); go_wp2; exact OpPostE.some _ rfl rfl (Ext.refl _) rfl
          with_reducible apply FromM.eq
          · intro w' hx; (try dsimp only [List.nil_append, List.cons_append, DepsL, DepsL1, setO, setN, favs, opsOf]); go_wp2; exact OpPostE.some _ rfl rfl (Ext.refl _) rfl
          with_reducible refine FromM.fin ?_
          intro w' hx
          (try dsimp only [List.nil_append, List.cons_append, EndL, DepsL1, setO, setN])
          have HX := Lib.hid (HX.out.trans hx)
          clear hx
          go_wp2_with fail
          go_roundw
          case rel => exact ⟨j + 1, by go_num, by omega, by rw [E3.out]; go_num, HX.out⟩
          case measure => simp [intOf]; omega
      · obtain rfl : j = N := by omega
        go_wp2_with fail
        go_ret2
        rw [EA3.out]
        exact ⟨rfl, X⟩
end Go.Proofs.Ytgnngifnoaagjaa
