/- Contracts of package code: polynomials of words, distances. -/
import Derived.Test.YtgnngifnoaagjaaCd2
import Derived.Test.YtgnngifnoaagjaaPoly5
namespace Go.Proofs.Ytgnngifnoaagjaa
open Go.RowKit

set_option maxHeartbeats 800000 in
theorem Pow_c (p a e : Nat) (w : World) (he : e < 18446744073709551616) :
    Calls Try.prog 82 #[.agg #[.int .u64 p], .int .u64 a, .int .u64 e] w fun r w' => r = .returned (.int .u64 (fpow p a e)) ∧ Ext w w' := by
  cases h : vld p
  · have H := Lib.hid h
    go_enter Try.func82, Try.ntmps82
    go_wp2_with (go_at_call 39; refine (Valid_c _ _).mono ?_; rintro e w1 ⟨rfl, hb1⟩)
    go_ret
    exact ⟨ret_u _ _ (by simp [fpow, H.out]), hb1.box⟩
  · have H := Lib.hid h
    have hp := vld_bd h
    have HE := Lib.hid he
    go_enter Try.func82, Try.ntmps82
    go_wp2_with (go_at_call 39; refine (Valid_c _ _).mono ?_; rintro e w1 ⟨rfl, hb1⟩; have hc := hb1.boxCell)
    refine region_facts [[], [], [], [(1, 11), (2, 12)], [], [(0, 10), (3, 13), (4, 14)], [(5, 15)]] [some 10, some 11, some 12, some 13, some 14, some 15, some 6] (by kernel_rfl) (by kernel_rfl) ?_
    with_reducible apply From.eq
    · intro w' hx; have hcx := hx.cell hc; (try dsimp only [List.nil_append, List.cons_append]); dsimp only [DepsV, fat, eqF]; go_wp2; exact OpPost.some _ rfl rfl (Ext.refl _) rfl
    with_reducible apply From.eq
    · intro w' hx; have hcx := hx.cell hc; (try dsimp only [List.nil_append, List.cons_append]); dsimp only [DepsV, fat, eqF]; go_wp2; exact OpPost.some _ rfl rfl (Ext.refl _) rfl
    with_reducible apply From.eq
    · intro w' hx; have hcx := hx.cell hc; (try dsimp only [List.nil_append, List.cons_append]); dsimp only [DepsV, fat, eqF]; go_wp2; exact OpPost.some _ rfl rfl (Ext.refl _) rfl
    with_reducible apply From.eq
    · intro w' hx; have hcx := hx.cell hc; (try dsimp only [List.nil_append, List.cons_append]); dsimp only [DepsV, fat, eqF]; rintro _ rfl _ rfl; go_wp2_with (go_at_call 66; refine (reduced_c p a _ (by omega)).mono ?_; rintro e w2 ⟨rfl, hb2⟩); exact OpPost.some _ rfl rfl hb2 rfl
    with_reducible apply From.eq
    · intro w' hx; have hcx := hx.cell hc; (try dsimp only [List.nil_append, List.cons_append]); dsimp only [DepsV, fat, eqF]; go_wp2; exact OpPost.some _ rfl rfl (Ext.refl _) rfl
    with_reducible apply From.eq
    · intro w' hx; have hcx := hx.cell hc; (try dsimp only [List.nil_append, List.cons_append]); dsimp only [DepsV, fat, eqF]; rintro _ rfl _ rfl _ rfl; go_wp2_with (go_at_call 62; refine (pow_c p (a % p) e _ H.out (Nat.mod_lt _ (by omega)) HE.out).mono ?_; rintro e w2 ⟨rfl, hb2⟩); exact OpPost.some _ rfl rfl hb2 rfl
    with_reducible apply From.eq
    · intro w' hx; have hcx := hx.cell hc; (try dsimp only [List.nil_append, List.cons_append]); dsimp only [DepsV, fat, eqF]; rintro _ rfl; go_wp2; exact OpPost.some _ rfl rfl (Ext.refl _) rfl
    with_reducible refine From.fin ?_
    intro w' hx
    (try dsimp only [List.nil_append, List.cons_append]); dsimp only [EndV, eqF]; rintro _ rfl _ rfl _ rfl _ rfl _ rfl _ rfl _ rfl; simp only [Act.put, List.setIfInBounds_toArray, List.set_cons_zero, List.set_cons_succ]
    go_wp2
    go_ret
    exact ⟨ret_u _ _ (by unfold fpow; rw [H.out]; simp [Nat.pow_mod]), hb1.box.trans hx⟩

/-- The polynomial of a word. -/
def cpoly (p N : Nat) (l : List Nat) : List Nat := trimP p (rintl p l (gent p) (rootN p N) N)
theorem cpoly_tN {p N : Nat} (h : WIn p N) (l : List Nat) (hl : l.length = N) : tN p l (gent p) = (rintl p l (gent p) (rootN p N) N, 0) := by
  rw [Q.tN_same]; unfold rI
  rw [if_neg (by rw [h.1]; simp), hl, if_pos ⟨h.2, by rw [gent_mod h.1]; have := (gent_bd h.1).1; omega⟩]

set_option maxRecDepth 100000 in
set_option maxHeartbeats 2000000 in
theorem polynomial_c (p N : Nat) (k : Int) (l : List Nat) (a : Option Addr) (c : Nat) (w : World) (h : WIn p N) (ha : Rd w a l) (hl : l.length = N) (hN : N ≤ 4096) :
    Calls Try.prog 53 #[.agg #[.int .u64 p, .int .i64 N, .int .i64 k], .slice a l.length c] w (SlPost w (cpoly p N l)) := by
  have EC := fun w' (hr : Rd w' a l) => Interpolate_c p l (gent p) a c w' hr (by omega)
  rw [cpoly_tN h l hl] at EC
  have HEC := Lib.hid EC
  have HA := Lib.hid ha
  obtain ⟨I, hI⟩ : ∃ I, I = rintl p l (gent p) (rootN p N) N := ⟨_, rfl⟩
  have hIl : I.length ≤ 4096 := by rw [hI]; unfold rintl; rw [tab_len]; exact hN
  have E : Hid (cpoly p N l = trimP p I) := Lib.hid (by rw [hI]; rfl)
  rw [← hI] at HEC
  have HIL := Lib.hid hIl
  have hc : ((w.alloc (.cells #[.int .u64 p, .int .i64 N, .int .i64 k] 31)).alloc (.cells #[.int .u64 p] 65)).cell? ⟨w.heap.size + 1, 0, none⟩ = some (.int .u64 p) := cnew _ _ _ _ _ (by simp)
  clear EC ha hI hIl hl
  go_enter Try.func53, Try.ntmps53
  go_wp2
  refine region_facts [[], [], [], [(2, 14)], [(0, 12), (1, 13), (3, 15)], [(4, 16)], [(5, 11)], [(5, 11)], [(6, 17)], [(7, 18)]] [some 12, some 13, some 14, some 15, some 16, some 11, some 17, some 18, some 6, some 7] (by kernel_rfl) (by kernel_rfl) ?_
  with_reducible apply From.eq
  · intro w' hx; have hcx := hx.cell hc; (try dsimp only [List.nil_append, List.cons_append]); dsimp only [DepsV, fat, eqF]; go_wp2; exact OpPost.some _ rfl rfl (Ext.refl _) rfl
  with_reducible apply From.eq
  · intro w' hx; have hcx := hx.cell hc; (try dsimp only [List.nil_append, List.cons_append]); dsimp only [DepsV, fat, eqF]; go_wp2; exact OpPost.some _ rfl rfl (Ext.refl _) rfl
  with_reducible apply From.eq
  · intro w' hx; have hcx := hx.cell hc; (try dsimp only [List.nil_append, List.cons_append]); dsimp only [DepsV, fat, eqF]; go_wp2; exact OpPost.some _ rfl rfl (Ext.refl _) rfl
  with_reducible apply From.eq
  · intro w' hx; have hcx := hx.cell hc; (try dsimp only [List.nil_append, List.cons_append]); dsimp only [DepsV, fat, eqF]; rintro _ rfl; go_wp2_with (go_at_call 43; refine (Generator_c _ _).mono ?_; rintro e w2 ⟨rfl, hb2⟩); exact OpPost.some _ rfl rfl hb2 rfl
  refine From.step (IPF w.heap.size I 0) (IPF.mono) ?_ ?_
  · intro w' hx; have hcx := hx.cell hc; (try dsimp only [List.nil_append, List.cons_append]); dsimp only [DepsV, fat, eqF]; rintro _ rfl _ rfl _ rfl; skip;
    go_wp2_with (go_at_call 75; refine (HEC.out _ (HA.out.ext hx.box.box)).mono ?_; rintro e w2 ⟨v, rfl, ho, hn⟩); exact OpPost.some _ rfl rfl hn ⟨v, rfl, ho.base hx.box.box.size⟩
  refine From.step (IPF w.heap.size I 0) (IPF.mono) ?_ ?_
  · intro w' hx; have hcx := hx.cell hc; (try dsimp only [List.nil_append, List.cons_append]); dsimp only [DepsV, fat, eqF]; rintro v4 h4; go_wp2; exact OpPost.some _ rfl rfl (Ext.refl _) h4
  -- 6: t17
  refine From.step (OwnF w.heap.size (I)) OwnF.mono ?_ ?_
  · intro w' hx; have hcx := hx.cell hc; (try dsimp only [List.nil_append, List.cons_append]); dsimp only [DepsV, fat, eqF]; rintro v5_ h5_; obtain ⟨u, rfl, hu⟩ := h5_; go_wp2; exact OpPost.some _ rfl rfl (Ext.refl _) hu
  -- 7: t18
  with_reducible apply From.eq
  · intro w' hx; have hcx := hx.cell hc; (try dsimp only [List.nil_append, List.cons_append]); dsimp only [DepsV, fat, eqF]; rintro v5_ h5_; obtain ⟨u, rfl, hu⟩ := h5_; go_wp2; exact OpPost.some _ rfl rfl (Ext.refl _) rfl
  -- 8: t6
  refine From.step (OwnF w.heap.size (I)) OwnF.mono ?_ ?_
  · intro w' hx; have hcx := hx.cell hc; (try dsimp only [List.nil_append, List.cons_append]); dsimp only [DepsV, fat, eqF]; rintro v6 h6; go_wp2; exact OpPost.some _ rfl rfl (Ext.refl _) h6
  with_reducible apply From.eq
  · intro w' hx; have hcx := hx.cell hc; (try dsimp only [List.nil_append, List.cons_append]); dsimp only [DepsV, fat, eqF]; rintro _ rfl; go_wp2; exact OpPost.some _ rfl rfl (Ext.refl _) rfl
  with_reducible refine From.fin ?_
  intro w' hx
  (try dsimp only [List.nil_append, List.cons_append]); dsimp only [EndV, eqF]; rintro _ rfl _ rfl _ rfl _ rfl v4 h4 v5_ h5_ v6 h6 _ rfl v8 h8 _ rfl; simp only [Act.put, List.setIfInBounds_toArray, List.set_cons_zero, List.set_cons_succ]
  have HU : Own w' w.heap.size v8 I := h8
  obtain ⟨aI, cI, rfl, _, _, rI⟩ := HU.form
  have hc2 := hx.cell hc
  have RI := Lib.hid rI
  clear h4 h5_ h6 h8 HU rI
  go_wp2_with fail
  refine (Trim_c p I aI cI _ RI.out (by have := HIL.out; omega)).mono ?_; rintro e w2 ⟨v, rfl, o2, x2⟩
  go_wp2_with fail
  go_ret
  exact ⟨_, rfl, by rw [E.out]; exact o2.base hx.box.box.size, hx.box.box.trans x2⟩

/-! ### the vanishing polynomial -/
def cvan (p N : Nat) : List Nat := ((List.replicate (N + 1) 0).set 0 (fneg p (fpow p (gent p) N))).set N 1
theorem cvan_len (p N : Nat) : (cvan p N).length = N + 1 := by simp [cvan]

set_option maxRecDepth 100000 in
set_option maxHeartbeats 2000000 in
theorem vanishing_c (p N : Nat) (k : Int) (w : World) (hN : N ≤ 4096) :
    Calls Try.prog 69 #[.agg #[.int .u64 p, .int .i64 N, .int .i64 k]] w (SlPost w (cvan p N)) := by
  obtain ⟨M, hM⟩ : ∃ M, M = N + 1 := ⟨_, rfl⟩
  have hNM : N < M := by omega
  have hM2 : M ≤ 4097 := by omega
  have hz : (N : Int) + 1 = (M : Int) := by omega
  have hmk := make_c M M (Nat.le_refl _) (by omega)
  obtain ⟨w1, hw1⟩ : ∃ w1, w1 = ((w.alloc (.cells #[.int .u64 p, .int .i64 N, .int .i64 k] 31)).alloc (.cells #[.int .u64 p] 65)) := ⟨_, rfl⟩
  have x1 : Hid (Ext w w1) := Lib.hid (by rw [hw1]; exact ((Ext.refl _).alloc _).alloc _)
  have hs1 : Hid (w1.heap.size = w.heap.size + 1 + 1) := Lib.hid (by rw [hw1]; simp)
  have h1 : w1.cell? ⟨w.heap.size, 1, none⟩ = some (.int .i64 N) := by
    rw [hw1]; exact ((Ext.refl (w.alloc (.cells #[.int .u64 p, .int .i64 N, .int .i64 k] 31))).alloc _).cell (by simp)
  have hc : w1.cell? ⟨w.heap.size + 1, 0, none⟩ = some (.int .u64 p) := by rw [hw1]; exact cnew _ _ _ _ _ (by simp)
  obtain ⟨w2, hw2⟩ : ∃ w2, w2 = w1.alloc (.cells (rowA (List.replicate M 0)) 22) := ⟨_, rfl⟩
  have x2 : Hid (Ext w1 w2) := Lib.hid (by rw [hw2]; exact (Ext.refl _).alloc _)
  have A2 : Hid (Arr w2 (w.heap.size + 1 + 1) (List.replicate M 0) M) := Lib.hid (by
    have h := Arr.ofBlk (Blk.new w1 (rowA (List.replicate M 0))) (by simp; omega)
    rw [List.length_replicate, ← hw2, hs1.out] at h; exact h)
  have h12 := x2.out.cell h1
  have hc2 := x2.out.cell hc
  have HW2 : Hid ((((w.alloc (.cells #[.int .u64 p, .int .i64 N, .int .i64 k] 31)).alloc (.cells #[.int .u64 p] 65)).alloc (.cells (rowA (List.replicate M 0)) 22)) = w2) := Lib.hid (by rw [hw2, hw1])
  have HM := Lib.hid hM
  clear hw2 hw1 h1 hc hM
  go_enter Try.func69, Try.ntmps69
  go_wp2
  rw [HW2.out]
  clear hmk
  refine region_facts [[], [], [], [], [(3, 15)], [], [(5, 17)], [(6, 18)], [(2, 14), (4, 16), (7, 19)], [(1, 13), (8, 20)]] [some 12, some 13, some 14, some 15, some 16, some 17, some 18, some 19, some 20, some 21] (by kernel_rfl) (by kernel_rfl) ?_
  with_reducible apply From.eq
  · intro w' hx; have hc2x := hx.cell hc2; have h12x := hx.cell h12; (try dsimp only [List.nil_append, List.cons_append]); dsimp only [DepsV, fat, eqF]; go_wp2; exact OpPost.some _ rfl rfl (Ext.refl _) rfl
  with_reducible apply From.eq
  · intro w' hx; have hc2x := hx.cell hc2; have h12x := hx.cell h12; (try dsimp only [List.nil_append, List.cons_append]); dsimp only [DepsV, fat, eqF]; go_wp2; exact OpPost.some _ rfl rfl (Ext.refl _) rfl
  with_reducible apply From.eq
  · intro w' hx; have hc2x := hx.cell hc2; have h12x := hx.cell h12; (try dsimp only [List.nil_append, List.cons_append]); dsimp only [DepsV, fat, eqF]; go_wp2; exact OpPost.some _ rfl rfl (Ext.refl _) rfl
  with_reducible apply From.eq
  · intro w' hx; have hc2x := hx.cell hc2; have h12x := hx.cell h12; (try dsimp only [List.nil_append, List.cons_append]); dsimp only [DepsV, fat, eqF]; go_wp2; exact OpPost.some _ rfl rfl (Ext.refl _) rfl
  with_reducible apply From.eq
  · intro w' hx; have hc2x := hx.cell hc2; have h12x := hx.cell h12; (try dsimp only [List.nil_append, List.cons_append]); dsimp only [DepsV, fat, eqF]; rintro _ rfl; go_wp2_with (go_at_call 43; refine (Generator_c _ _).mono ?_; rintro e w2 ⟨rfl, hb2⟩); exact OpPost.some _ rfl rfl hb2 rfl
  with_reducible apply From.eq
  · intro w' hx; have hc2x := hx.cell hc2; have h12x := hx.cell h12; (try dsimp only [List.nil_append, List.cons_append]); dsimp only [DepsV, fat, eqF]; go_wp2; exact OpPost.some _ rfl rfl (Ext.refl _) rfl
  with_reducible apply From.eq
  · intro w' hx; have hc2x := hx.cell hc2; have h12x := hx.cell h12; (try dsimp only [List.nil_append, List.cons_append]); dsimp only [DepsV, fat, eqF]; rintro _ rfl; go_wp2; exact OpPost.some _ rfl rfl (Ext.refl _) rfl
  with_reducible apply From.eq
  · intro w' hx; have hc2x := hx.cell hc2; have h12x := hx.cell h12; (try dsimp only [List.nil_append, List.cons_append]); dsimp only [DepsV, fat, eqF]; rintro _ rfl; go_wp2; exact OpPost.some _ rfl rfl (Ext.refl _) rfl
  with_reducible apply From.eq
  · intro w' hx; have hc2x := hx.cell hc2; have h12x := hx.cell h12; (try dsimp only [List.nil_append, List.cons_append]); dsimp only [DepsV, fat, eqF]; rintro _ rfl _ rfl _ rfl; go_wp2_with (go_at_call 82; refine (Pow_c p _ N _ (by omega)).mono ?_; rintro e w2 ⟨rfl, hb2⟩); exact OpPost.some _ rfl rfl hb2 rfl
  with_reducible apply From.eq
  · intro w' hx; have hc2x := hx.cell hc2; have h12x := hx.cell h12; (try dsimp only [List.nil_append, List.cons_append]); dsimp only [DepsV, fat, eqF]; rintro _ rfl _ rfl; go_wp2_with (go_at_call 78; refine (Neg_c _ _ _).mono ?_; rintro e w2 ⟨rfl, hb2⟩); exact OpPost.some _ rfl rfl hb2 rfl
  with_reducible refine From.fin ?_
  intro w' hx
  (try dsimp only [List.nil_append, List.cons_append]); dsimp only [EndV, eqF]; rintro _ rfl _ rfl _ rfl _ rfl _ rfl _ rfl _ rfl _ rfl _ rfl _ rfl; simp only [Act.put, List.setIfInBounds_toArray, List.set_cons_zero, List.set_cons_succ]
  obtain ⟨s, hs⟩ : ∃ s, s = fneg p (fpow p (gent p) N) := ⟨_, rfl⟩
  have E : Hid (cvan p N = ((List.replicate M 0).set 0 s).set N 1) := Lib.hid (by rw [hs, HM.out]; rfl)
  rw [← hs]
  clear hs
  have A3 := A2.out.ext hx
  have f3 := A3.frozen 0
  have d3 := A3.at (i := 0) (by rw [List.length_replicate]; omega)
  have HA3 := Lib.hid (A3.set 0 s (by rw [List.length_replicate]; omega))
  have X3 : Ext w1 (w'.setCell ⟨w.heap.size + 1 + 1, 0, none⟩ (.int .u64 (s : Int))) := (x2.out.trans hx).setNew (by rw [hs1.out]; exact Nat.le_refl _) _
  have h13 : (w'.setCell ⟨w.heap.size + 1 + 1, 0, none⟩ (.int .u64 (s : Int))).cell? ⟨w.heap.size, 1, none⟩ = some (.int .i64 N) := (But.set w' (w.heap.size + 1 + 1) 0 (.int .u64 (s : Int))).cell (hx.cell h12) (by show w.heap.size ≠ w.heap.size + 1 + 1; omega)
  have f4 := HA3.out.frozen N
  have d4 := HA3.out.at (i := N) (by rw [List.length_set, List.length_replicate]; omega)
  have HA4 := Lib.hid (HA3.out.set N 1 (by rw [List.length_set, List.length_replicate]; omega))
  have X4 : Ext w1 ((w'.setCell ⟨w.heap.size + 1 + 1, 0, none⟩ (.int .u64 (s : Int))).setCell ⟨w.heap.size + 1 + 1, N, none⟩ (.int .u64 (1 : Nat))) := X3.setNew (by rw [hs1.out]; exact Nat.le_refl _) _
  clear A3
  go_wp2
  go_ret
  have ho := HA4.out.own (base := w.heap.size) (by omega)
  rw [List.length_set, List.length_set, List.length_replicate] at ho
  exact ⟨_, rfl, by rw [E.out]; exact ho, x1.out.trans X4⟩

set_option maxHeartbeats 1000000 in
theorem creduced_c (p : Nat) (l : List Nat) (a : Option Addr) (c : Nat) (w : World) (ha : Rd w a l) (hl : l.length ≤ 1000000) :
    Calls Try.prog 73 #[.agg #[.int .u64 p], .slice a l.length c] w (SlPost w (l.map (fred p))) := by
  have hmk := make_c l.length l.length (Nat.le_refl _) (by omega)
  have HA := Lib.hid ha
  have hw0 := Lib.hid (Ext.refl (w.alloc (.cells #[.int .u64 p] 65)))
  obtain ⟨w1, hw1⟩ : ∃ w1, w1 = w.alloc (.cells #[.int .u64 p] 65) := ⟨_, rfl⟩
  have x1 : Hid (Ext w w1) := Lib.hid (by rw [hw1]; exact (Ext.refl _).alloc _)
  have hs1 : Hid (w1.heap.size = w.heap.size + 1) := Lib.hid (by rw [hw1]; simp)
  have hc : w1.cell? ⟨w.heap.size, 0, none⟩ = some (.int .u64 p) := by rw [hw1]; simp
  clear ha hw0
  go_enter Try.func73, Try.ntmps73
  go_wp2
  rw [← hw1]
  clear hmk
  go_loopw [13] (RdRel p l w1 (w.heap.size + 1)) (fun i _ => l.length - (intOf i).toNat)
  case atStart =>
    refine ⟨0, rfl, Nat.zero_le _, ?_, (Ext.refl _).alloc _⟩
    have := Arr.ofBlk (Blk.new w1 (rowA (List.replicate l.length 0))) (by simp; omega)
    rw [List.length_replicate] at this
    rw [fill_zero, ← hs1.out]; exact this
  case round =>
    obtain ⟨k, rfl, hk, harr, hext⟩ := hrel
    have hc2 := hext.cell hc
    by_cases hlt : k < l.length
    · obtain ⟨b, off, rfl, hcell⟩ := HA.out.at (by omega)
      have c1 := hext.cell (x1.out.cell (hcell k hlt))
      obtain ⟨x, hx0⟩ : ∃ x, x = l.getD k 0 := ⟨_, rfl⟩
      have hst := fill_step (fun i => fred p (l.getD i 0)) l.length k hlt
      rw [← hx0] at c1 hst
      have HAR := Lib.hid harr
      have HST := Lib.hid hst
      have hfl : Hid (k < (fill (fun i => fred p (l.getD i 0)) l.length k).length) := Lib.hid (by rw [fill_len _ _ _ hk]; exact hlt)
      clear hcell hx0 hst harr
      go_wp2_with fail
      refine (Reduce_c _ _ _).mono ?_; rintro e w2 ⟨rfl, x2⟩
      have HA2 := Lib.hid (HAR.out.ext x2)
      have f2 := HA2.out.frozen k
      have c2 := HA2.out.at hfl.out
      go_wp2
      go_roundw
      case rel =>
        refine ⟨k + 1, by go_num, by omega, ?_, (hext.trans x2).setNew (Nat.le_of_eq hs1.out) _⟩
        rw [← HST.out]; exact HA2.out.set k _ hfl.out
      case measure => simp [intOf]; omega
    · obtain rfl : k = l.length := by omega
      have HAR := Lib.hid harr
      clear harr
      go_wp2
      go_ret
      have hh := HAR.out
      rw [fill_full, range_map_getD] at hh
      have ho := hh.own (base := w.heap.size) (by omega)
      rw [List.length_map] at ho
      exact ⟨_, rfl, ho, x1.out.trans hext⟩

/-! ### distances -/
def od (a b : List Nat) : Nat → Nat
  | 0 => 0
  | k + 1 => od a b k + if a[k]? = b[k]? then 0 else 1
def dist (a b : List Nat) : Nat := od a b (max a.length b.length)
theorem od_le (a b : List Nat) : ∀ k, od a b k ≤ k
  | 0 => Nat.le_refl _
  | k + 1 => by have := od_le a b k; rw [od]; split <;> omega
theorem od_more (a b : List Nat) : ∀ M, max a.length b.length ≤ M → od a b M = dist a b := by
  intro M h
  obtain ⟨d, rfl⟩ : ∃ d, M = max a.length b.length + d := ⟨M - max a.length b.length, by omega⟩
  clear h
  induction d with
  | zero => rfl
  | succ d ih => rw [← Nat.add_assoc, od, ih, List.getElem?_eq_none (by omega), List.getElem?_eq_none (by omega), if_pos rfl]; rfl
theorem od_comm (a b : List Nat) : ∀ k, od a b k = od b a k
  | 0 => rfl
  | k + 1 => by rw [od, od, od_comm a b k]; congr 1; by_cases h : a[k]? = b[k]? <;> simp [h, eq_comm]
theorem dist_comm (a b : List Nat) : dist a b = dist b a := by unfold dist; rw [od_comm, Nat.max_comm]
theorem dist_self (a : List Nat) : dist a a = 0 := by
  have : ∀ k, od a a k = 0 := fun k => by induction k with
    | zero => rfl
    | succ k ih => rw [od, ih, if_pos rfl]
  exact this _
theorem od_tri (a b c : List Nat) : ∀ k, od a c k ≤ od a b k + od b c k
  | 0 => Nat.le_refl _
  | k + 1 => by
    have := od_tri a b c k
    rw [od, od, od]
    by_cases h1 : a[k]? = b[k]? <;> by_cases h2 : b[k]? = c[k]?
    · rw [if_pos h1, if_pos h2, if_pos (h1.trans h2)]; omega
    · rw [if_pos h1, if_neg h2]; split <;> omega
    · rw [if_neg h1, if_pos h2]; split <;> omega
    · rw [if_neg h1, if_neg h2]; split <;> omega
theorem dist_tri (a b c : List Nat) : dist a c ≤ dist a b + dist b c := by
  have h := od_tri a b c (max a.length (max b.length c.length))
  rwa [od_more a c _ (by omega), od_more a b _ (by omega), od_more b c _ (by omega)] at h
theorem od_tail (a b : List Nat) : ∀ d, a.length + d ≤ b.length → od a b (a.length + d) = od a b a.length + d
  | 0, _ => rfl
  | d + 1, h => by
    rw [← Nat.add_assoc, od, od_tail a b d (by omega), List.getElem?_eq_none (l := a) (by omega), List.getElem?_eq_getElem (l := b) (by omega), if_neg (by simp)]; omega
theorem dist_short {a b : List Nat} (h : a.length ≤ b.length) : dist a b = od a b a.length + (b.length - a.length) := by
  unfold dist
  rw [Nat.max_eq_right h]
  conv => lhs; rw [show b.length = a.length + (b.length - a.length) by omega]
  exact od_tail a b _ (by omega)
theorem od_in (a b : List Nat) (k : Nat) (ha : k < a.length) (hb : k < b.length) : od a b (k + 1) = od a b k + if a.getD k 0 = b.getD k 0 then 0 else 1 := by
  rw [od]; congr 1
  simp only [List.getD, List.getElem?_eq_getElem ha, List.getElem?_eq_getElem hb, Option.getD_some, Option.some.injEq]
theorem od_out (a b : List Nat) (k : Nat) (h : k < a.length ∨ k < b.length) (h2 : ¬ (k < a.length ∧ k < b.length)) : od a b (k + 1) = od a b k + 1 := by
  rw [od, if_neg]
  intro e
  by_cases h1 : k < a.length
  · rw [List.getElem?_eq_getElem h1, List.getElem?_eq_none (by omega)] at e; cases e
  · rw [List.getElem?_eq_none (by omega), List.getElem?_eq_getElem (by omega)] at e; cases e
def DsRel (a b : List Nat) (w0 : World) (cnt i : Value) (wr : World) : Prop :=
  ∃ k : Nat, i = .int .i64 k ∧ k ≤ a.length ∧ cnt = .int .i64 ((od a b k + (b.length - a.length) : Nat) : Int) ∧ Ext w0 wr

set_option maxRecDepth 100000 in
set_option maxHeartbeats 2000000 in
theorem Distance_c (l m : List Nat) (a b : Option Addr) (c d : Nat) (w : World) (ha : Rd w a l) (hb : Rd w b m) (hl : l.length ≤ 1000000) (hm : m.length ≤ 1000000) :
    Calls Try.prog 24 #[.slice a l.length c, .slice b m.length d] w fun e w' => e = .returned (.int .i64 (dist l m : Nat)) ∧ Ext w w' := by
  have HA := Lib.hid ha
  have HB := Lib.hid hb
  clear ha hb
  by_cases hc : l.length ≤ m.length
  · have t0 : decide (m.length < l.length) = false := by simp; omega
    have hz : (m.length : Int) - (l.length : Int) = ((m.length - l.length : Nat) : Int) := by omega
    obtain ⟨df, hdf⟩ : ∃ df, df = m.length - l.length := ⟨_, rfl⟩
    rw [← hdf] at hz
    have hdf2 : df ≤ 1000000 := by omega
    have HDF := Lib.hid hdf
    clear hdf
    go_enter Try.func24, Try.ntmps24
    go_wp2
    (try rw [hz])
    go_loopw [5, 22] (DsRel l m w) (fun _ i _ => l.length - (intOf i).toNat)
    case atStart => exact ⟨0, rfl, Nat.zero_le _, by rw [← HDF.out]; simp [od], Ext.refl _⟩
    case round =>
      obtain ⟨j, rfl, hj, rfl, hext⟩ := hrel
      rw [← HDF.out]
      have ho := od_le l m j
      by_cases hlt : j < l.length
      · obtain ⟨ga, offa, rfl, hcell⟩ := HA.out.at (by omega)
        obtain ⟨gb, offb, rfl, hcell2⟩ := HB.out.at (by omega)
        have ca := hext.cell (hcell j hlt)
        have cb := hext.cell (hcell2 j (by omega))
        have E := od_in l m j hlt (by omega)
        obtain ⟨x, hx0⟩ : ∃ x, x = l.getD j 0 := ⟨_, rfl⟩
        obtain ⟨y, hy0⟩ : ∃ y, y = m.getD j 0 := ⟨_, rfl⟩
        rw [← hx0] at ca E
        rw [← hy0] at cb E
        obtain ⟨o, ho0⟩ : ∃ o, o = od l m j := ⟨_, rfl⟩
        rw [← ho0] at E ho
        rw [← ho0]
        clear hcell hcell2 hx0 hy0 ho0
        by_cases hxy : x = y
        · subst hxy
          rw [if_pos rfl] at E
          have HE := Lib.hid E
          clear E
          go_wp2
          go_roundw
          case rel => exact ⟨j + 1, by go_num, by omega, by rw [HE.out, ← HDF.out]; rfl, hext⟩
          case measure => simp [intOf]; omega
        · rw [if_neg hxy] at E
          have HE := Lib.hid E
          have t1 : ((x : Int) != (y : Int)) = true := bne_iff_ne.2 (by omega)
          clear E
          go_wp2
          go_roundw
          case rel => exact ⟨j + 1, by go_num, by omega, by rw [HE.out, ← HDF.out]; go_num, hext⟩
          case measure => simp [intOf]; omega
      · obtain rfl : j = l.length := by omega
        have E : Hid (dist l m = od l m l.length + df) := Lib.hid (by rw [HDF.out]; exact dist_short (by omega))
        go_wp2
        go_ret
        exact ⟨by rw [E.out]; rfl, hext⟩
  · have t0 : decide (m.length < l.length) = true := by simp; omega
    have hc' : m.length ≤ l.length := by omega
    clear hc
    have hz : (l.length : Int) - (m.length : Int) = ((l.length - m.length : Nat) : Int) := by omega
    obtain ⟨df, hdf⟩ : ∃ df, df = l.length - m.length := ⟨_, rfl⟩
    rw [← hdf] at hz
    have hdf2 : df ≤ 1000000 := by omega
    have HDF := Lib.hid hdf
    clear hdf
    go_enter Try.func24, Try.ntmps24
    go_wp2
    (try rw [hz])
    go_loopw [5, 22] (DsRel m l w) (fun _ i _ => m.length - (intOf i).toNat)
    case atStart => exact ⟨0, rfl, Nat.zero_le _, by rw [← HDF.out]; simp [od], Ext.refl _⟩
    case round =>
      obtain ⟨j, rfl, hj, rfl, hext⟩ := hrel
      rw [← HDF.out]
      have ho := od_le m l j
      by_cases hlt : j < m.length
      · obtain ⟨ga, offa, rfl, hcell⟩ := HB.out.at (by omega)
        obtain ⟨gb, offb, rfl, hcell2⟩ := HA.out.at (by omega)
        have ca := hext.cell (hcell j hlt)
        have cb := hext.cell (hcell2 j (by omega))
        have E := od_in m l j hlt (by omega)
        obtain ⟨x, hx0⟩ : ∃ x, x = m.getD j 0 := ⟨_, rfl⟩
        obtain ⟨y, hy0⟩ : ∃ y, y = l.getD j 0 := ⟨_, rfl⟩
        rw [← hx0] at ca E
        rw [← hy0] at cb E
        obtain ⟨o, ho0⟩ : ∃ o, o = od m l j := ⟨_, rfl⟩
        rw [← ho0] at E ho
        rw [← ho0]
        clear hcell hcell2 hx0 hy0 ho0
        by_cases hxy : x = y
        · subst hxy
          rw [if_pos rfl] at E
          have HE := Lib.hid E
          clear E
          go_wp2
          go_roundw
          case rel => exact ⟨j + 1, by go_num, by omega, by rw [HE.out, ← HDF.out]; rfl, hext⟩
          case measure => simp [intOf]; omega
        · rw [if_neg hxy] at E
          have HE := Lib.hid E
          have t1 : ((x : Int) != (y : Int)) = true := bne_iff_ne.2 (by omega)
          clear E
          go_wp2
          go_roundw
          case rel => exact ⟨j + 1, by go_num, by omega, by rw [HE.out, ← HDF.out]; go_num, hext⟩
          case measure => simp [intOf]; omega
      · obtain rfl : j = m.length := by omega
        have E : Hid (dist m l = od m l m.length + df) := Lib.hid (by rw [HDF.out]; exact dist_short (by omega))
        go_wp2
        go_ret
        exact ⟨by rw [dist_comm, E.out]; rfl, hext⟩

def RsRelD (l m : List Nat) (w0 : World) (cnt i : Value) (wr : World) : Prop :=
  ∃ k : Nat, i = .int .i64 k ∧ k ≤ max l.length m.length ∧ cnt = .int .i64 (od l m k : Nat) ∧ Ext w0 wr

set_option maxRecDepth 100000 in
set_option maxHeartbeats 2000000 in
theorem RDistance_c (l m : List Nat) (a b : Option Addr) (c d : Nat) (w : World) (ha : Rd w a l) (hb : Rd w b m) (hl : l.length ≤ 1000000) (hm : m.length ≤ 1000000) :
    Calls Try.prog 25 #[.slice a l.length c, .slice b m.length d] w fun e w' => e = .returned (.int .i64 (dist l m : Nat)) ∧ Ext w w' := by
  have HA := Lib.hid ha
  have HB := Lib.hid hb
  clear ha hb
  go_enter Try.func25, Try.ntmps25
  go_wp2
  go_loopw [5, 6] (RsRelD l m w) (fun _ i _ => (max l.length m.length) - (intOf i).toNat)
  case atStart => exact ⟨0, rfl, Nat.zero_le _, rfl, Ext.refl _⟩
  case round =>
    obtain ⟨j, rfl, hj, rfl, hext⟩ := hrel
    have ho := od_le l m j
    by_cases hla : j < l.length
    · by_cases hlb : j < m.length
      · obtain ⟨ga, offa, rfl, hcell⟩ := HA.out.at (by omega)
        obtain ⟨gb, offb, rfl, hcell2⟩ := HB.out.at (by omega)
        have ta : decide (l.length ≤ j) = false := by simp; omega
        have tb : decide (m.length ≤ j) = false := by simp; omega
        have ca := hext.cell (hcell j hla)
        have cb := hext.cell (hcell2 j hlb)
        have E := od_in l m j hla hlb
        obtain ⟨x, hx0⟩ : ∃ x, x = l.getD j 0 := ⟨_, rfl⟩
        obtain ⟨y, hy0⟩ : ∃ y, y = m.getD j 0 := ⟨_, rfl⟩
        rw [← hx0] at ca E
        rw [← hy0] at cb E
        obtain ⟨o, ho0⟩ : ∃ o, o = od l m j := ⟨_, rfl⟩
        rw [← ho0] at E ho
        rw [← ho0]
        clear hcell hcell2 hx0 hy0 ho0
        by_cases hxy : x = y
        · subst hxy
          rw [if_pos rfl] at E
          have HE := Lib.hid E
          clear E
          go_wp2
          go_region
          go_wp2
          go_roundw
          case rel => exact ⟨j + 1, by go_num, by omega, by rw [HE.out]; rfl, hext.drew⟩
          case measure => simp [intOf]; omega
        · rw [if_neg hxy] at E
          have HE := Lib.hid E
          have t1 : ((x : Int) != (y : Int)) = true := bne_iff_ne.2 (by omega)
          clear E
          go_wp2
          go_region
          go_wp2
          go_roundw
          case rel => exact ⟨j + 1, by go_num, by omega, by rw [HE.out]; go_num, hext.drew⟩
          case measure => simp [intOf]; omega
      · have ta : decide (l.length ≤ j) = false := by simp; omega
        have tb : decide (m.length ≤ j) = true := by simp; omega
        have HE := Lib.hid (od_out l m j (.inl hla) (by omega))
        obtain ⟨o, ho0⟩ : ∃ o, o = od l m j := ⟨_, rfl⟩
        rw [← ho0] at HE ho
        rw [← ho0]
        clear ho0
        go_wp2
        go_region
        go_wp2
        go_roundw
        case rel => exact ⟨j + 1, by go_num, by omega, by rw [HE.out]; go_num, hext.drew⟩
        case measure => simp [intOf]; omega
    · by_cases hlb : j < m.length
      · have ta : decide (l.length ≤ j) = true := by simp; omega
        have HE := Lib.hid (od_out l m j (.inr hlb) (by omega))
        obtain ⟨o, ho0⟩ : ∃ o, o = od l m j := ⟨_, rfl⟩
        rw [← ho0] at HE ho
        rw [← ho0]
        clear ho0
        go_wp2
        go_region
        go_wp2
        go_roundw
        case rel => exact ⟨j + 1, by go_num, by omega, by rw [HE.out]; go_num, hext.drew⟩
        case measure => simp [intOf]; omega
      · obtain rfl : j = max l.length m.length := by omega
        go_wp2
        go_ret
        exact ⟨rfl, hext⟩
end Go.Proofs.Ytgnngifnoaagjaa
