/- Contract: the document's Apart. -/
import Derived.Test.YtgnngifnoaagjaaCd13
import Derived.Test.YtgnngifnoaagjaaCd14
namespace Go.Proofs.Ytgnngifnoaagjaa
open Go.RowKit

theorem fmul_cm (p a b : Nat) : fmul p a b = fmul p b a := by unfold fmul; rw [Nat.mul_comm]
set_option maxRecDepth 100000 in
set_option maxHeartbeats 8000000 in
theorem RApart_c (p N K : Nat) (l m : List Nat) (e : Int) (a b : Option Addr) (c d : Nat) (w : World) (hc : cval p N K = true) (hp : p ≤ 257) (hl : l.length = N) (hm : m.length = N) (he : 2 * e ≤ (N : Int) - (K : Int)) (ha : Rd w a l) (hb : Rd w b m) :
    Calls Try.prog 38 #[.agg #[.int .u64 p, .int .i64 (N : Int), .int .i64 (K : Int)], .slice a N c, .slice b N d, .int .i64 e] w fun e' w' => e' = .returned (.int .i64 (apM p N l m (lineM p N K l m e))) ∧ Ext w w' := by
  have HA := Lib.hid ha
  have HB := Lib.hid hb
  clear ha hb
  have h0 : (w.alloc (.cells #[.int .u64 p, .int .i64 (N : Int), .int .i64 (K : Int)] 24)).cell? ⟨w.heap.size, 0, none⟩ = some (.int .u64 p) := by simp
  have h1 : (w.alloc (.cells #[.int .u64 p, .int .i64 (N : Int), .int .i64 (K : Int)] 24)).cell? ⟨w.heap.size, 1, none⟩ = some (.int .i64 (N : Int)) := by simp
  have h2 : (w.alloc (.cells #[.int .u64 p, .int .i64 (N : Int), .int .i64 (K : Int)] 24)).cell? ⟨w.heap.size, 2, none⟩ = some (.int .i64 (K : Int)) := by simp
  have LC := Lib.hid (fun w' h1 h2 => RLines_c p N K l m e a b c d w' hc hp hl hm he h1 h2)
  have hN2 : N ≤ 256 := by
    obtain ⟨_, f, K', N', hf, hN, hN', _⟩ := cval_spec hc
    have : N = 2 ^ f := by omega
    rw [this]; exact Nat.pow_le_pow_right (n := 2) (by omega) hf
  have HML := Lib.hid (fun x (h : x ∈ lineM p N K l m e) => lineM_len h)
  have CN := Lib.hid (show (lineM p N K l m e).length ≤ 257 from Nat.le_trans (lineK_len p N K l m e p) hp)
  obtain ⟨R, hR⟩ : ∃ R, R = lineM p N K l m e := ⟨_, rfl⟩
  rw [← hR] at LC HML CN
  rw [← hR]
  have HLL := Lib.hid hl
  have HMM := Lib.hid hm
  clear hR hc hp hl hm he
  have CN' : R.length ≤ 257 := CN.out
  by_cases h2R : R.length < 2
  case pos =>
    have EA3 : Hid (apM p N l m R = -1) := Lib.hid (by unfold apM; rw [if_pos h2R])
    go_enter Try.func38, Try.ntmps38
    go_wp2_with fail
    refine (LC.out _ (HA.out.ext ((Ext.refl _).alloc _)) (HB.out.ext ((Ext.refl _).alloc _))).mono ?_; rintro e w1 ⟨v1, v2, L, rfl, o1, o2, r1, x1⟩
    replace h0 := x1.cell h0
    replace h1 := x1.cell h1
    replace h2 := x1.cell h2
    obtain ⟨a1, c1, hv, _, _, f1⟩ := o1.form
    rw [List.length_map] at hv
    subst hv
    obtain ⟨a2, c2, hv, _, f2⟩ := o2.form
    have hLR : L.length = R.length := by rw [r1.1, List.length_map]
    rw [hLR] at hv
    subst hv
    have X := x1.box
    have F1 := Lib.hid f1
    have F2 := Lib.hid f2
    have R1 := Lib.hid r1
    have HLR := Lib.hid hLR
    clear o1 o2 r1 x1 f1 f2 hLR
    go_wp2_with fail
    go_ret
    rw [EA3.out]; exact ⟨rfl, X⟩
  obtain ⟨x0, y0, R', hRR⟩ : ∃ x y R', R = x :: y :: R' := by
    match R, h2R with
    | [], h => exact absurd (by simp) h
    | [x], h => exact absurd (by simp) h
    | x :: y :: R', _ => exact ⟨x, y, R', rfl⟩
  have hxl := HML.out x0 (by simp [hRR])
  have hyl := HML.out y0 (by simp [hRR])
  obtain ⟨rx, xw⟩ := x0
  obtain ⟨ry, yw⟩ := y0
  have EA3 : Hid (apM p N l m R = ((apC p l m (rx, xw) (ry, yw) N : Nat) : Int)) := Lib.hid (by
    unfold apM; rw [if_neg h2R, hRR]; rfl)
  simp only at hxl hyl
  have HXL := Lib.hid hxl
  have HYL := Lib.hid hyl
  have HRR := Lib.hid hRR
  clear hxl hyl hRR
  have hR0 : 0 < R.length := by omega
  have hR1 : 1 < R.length := by omega
  go_enter Try.func38, Try.ntmps38
  go_wp2_with fail
  refine (LC.out _ (HA.out.ext ((Ext.refl _).alloc _)) (HB.out.ext ((Ext.refl _).alloc _))).mono ?_; rintro e w1 ⟨v1, v2, L, rfl, o1, o2, r1, x1⟩
  replace h0 := x1.cell h0
  replace h1 := x1.cell h1
  replace h2 := x1.cell h2
  obtain ⟨a1, c1, hv, _, _, f1⟩ := o1.form
  rw [List.length_map] at hv
  subst hv
  obtain ⟨a2, c2, hv, _, f2⟩ := o2.form
  have hLR : L.length = R.length := by rw [r1.1, List.length_map]
  rw [hLR] at hv
  subst hv
  have X := x1.box
  have F1 := Lib.hid f1
  have F2 := Lib.hid f2
  have R1 := Lib.hid r1
  have HLR := Lib.hid hLR
  clear o1 o2 r1 x1 f1 f2 hLR
  go_wp2_with fail
  have KE : Hid (∃ (g o g2 o2 : Nat) (xs ys : SlC), a1 = some ⟨g, o, none⟩ ∧ a2 = some ⟨g2, o2, none⟩ ∧ w1.cell? ⟨g, o, none⟩ = some (.int .u64 (rx : Int)) ∧ w1.cell? ⟨g, o + 1, none⟩ = some (.int .u64 (ry : Int)) ∧ w1.cell? ⟨g2, o2, none⟩ = some (celV xs) ∧ w1.cell? ⟨g2, o2 + 1, none⟩ = some (celV ys) ∧ xs.2.1 = N ∧ Rd w1 xs.1 xw ∧ ys.2.1 = N ∧ Rd w1 ys.1 yw) := Lib.hid (by
    have q1 := R1.out
    have qf1 := F1.out
    have qf2 := F2.out
    have hl := HLR.out
    rw [HRR.out] at q1 qf1 hl
    obtain ⟨g, o, rfl, c1⟩ := qf1.at (by simp)
    obtain ⟨g2, o2, rfl, c2⟩ := qf2.at (by rw [hl]; simp)
    have k0 := c1 0 (by simp)
    have k1 := c1 1 (by simp)
    have k2 := c2 0 (by rw [hl]; simp)
    have k3 := c2 1 (by rw [hl]; simp)
    have p0 := q1.2 0 (by simp)
    have p1 := q1.2 1 (by simp)
    simp only [List.map_cons, List.getD_cons_zero, List.getD_cons_succ, Nat.add_zero] at k0 k1 k2 k3 p0 p1
    exact ⟨g, o, g2, o2, L.getD 0 (none, 0, 0), L.getD 1 (none, 0, 0), rfl, rfl, k0, k1, k2, k3, by rw [p0.1]; exact HXL.out.1, p0.2, by rw [p1.1]; exact HYL.out.1, p1.2⟩)
  obtain ⟨g, o, g2, o2, ⟨xa, xn, xc⟩, ⟨ya, yn, yc⟩, rfl, rfl, m0, m1, m2, m3, hxn, rx2, hyn, ry2⟩ := KE.out
  simp only at hxn hyn rx2 ry2
  simp only [celV] at m2 m3
  rw [hxn] at m2
  rw [hyn] at m3
  have RX := Lib.hid rx2
  have RY := Lib.hid ry2
  clear rx2 ry2 F1 F2 R1 KE hxn hyn
  go_wp2_with fail
  refine region_factsL [[], [], [], [(2, 32)], [(3, 33)], [], [(5, 35)], [(6, 36)], [(1, 31), (4, 34), (7, 37)], [(0, 30), (8, 38)], [(9, 39)]] [some 30, some 31, some 32, some 33, some 34, some 35, some 36, some 37, some 38, some 39, some 12] [false, false, false, false, false, false, false, false, false, true, false, true, false, false, false, false, false, false, false, false, false, false, false, false, false, false, false, false, false, false, false, false, false, false, false, false, false, false, false, false, false, false, false, false, false, false, false, false, false, false, false, false, false, false, false, false, false, false, false, false, false, false, false, false, false, false, false, false, false, false, false, false, false, false, false, false, false, false, false, false, false, false, false, false, false, false, false, false, false, false, false, false, false, false, false, false, false, false] (by kernel_rfl) (by kernel_rfl) (by kernel_rfl) ?_
  dsimp only [maskL]
  with_reducible apply FromM.eq
  · intro w' hx; (try dsimp only [List.nil_append, List.cons_append, DepsL, DepsL1, setO, setN, favs, opsOf]); go_wp2; exact OpPostE.some _ rfl rfl (Ext.refl _) rfl
  with_reducible apply FromM.eq
  · intro w' hx; (try dsimp only [List.nil_append, List.cons_append, DepsL, DepsL1, setO, setN, favs, opsOf]); go_wp2; exact OpPostE.some _ rfl rfl (Ext.refl _) rfl
  with_reducible apply FromM.eq
  · intro w' hx; (try dsimp only [List.nil_append, List.cons_append, DepsL, DepsL1, setO, setN, favs, opsOf]); go_wp2; exact OpPostE.some _ rfl rfl (Ext.refl _) rfl
  with_reducible apply FromM.eq
  · intro w' hx; (try dsimp only [List.nil_append, List.cons_append, DepsL, DepsL1, setO, setN, favs, opsOf]); go_wp2; exact OpPostE.some _ rfl rfl (Ext.refl _) rfl
  with_reducible apply FromM.eq
  · intro w' hx; have m0x := hx.cell m0; have m1x := hx.cell m1; (try dsimp only [List.nil_append, List.cons_append, DepsL, DepsL1, setO, setN, favs, opsOf]); go_wp2; exact OpPostE.some _ rfl rfl (Ext.refl _) rfl
  with_reducible apply FromM.eq
  · intro w' hx; (try dsimp only [List.nil_append, List.cons_append, DepsL, DepsL1, setO, setN, favs, opsOf]); go_wp2; exact OpPostE.some _ rfl rfl (Ext.refl _) rfl
  with_reducible apply FromM.eq
  · intro w' hx; (try dsimp only [List.nil_append, List.cons_append, DepsL, DepsL1, setO, setN, favs, opsOf]); go_wp2; exact OpPostE.some _ rfl rfl (Ext.refl _) rfl
  with_reducible apply FromM.eq
  · intro w' hx; have m0x := hx.cell m0; have m1x := hx.cell m1; (try dsimp only [List.nil_append, List.cons_append, DepsL, DepsL1, setO, setN, favs, opsOf]); go_wp2; exact OpPostE.some _ rfl rfl (Ext.refl _) rfl
  with_reducible apply FromM.eq
  · intro w' hx; (try dsimp only [List.nil_append, List.cons_append, DepsL, DepsL1, setO, setN, favs, opsOf]); refine op_call 52 [.tmp 31, .tmp 34, .tmp 37] _ _ _ rfl rfl rfl rfl rfl rfl (fun _ _ => Try.call52 _ _) (RSub_c _ _ _ _) (fun e w2 h_ => ?_); obtain ⟨rfl, hb2⟩ := h_; exact ⟨_, rfl, hb2, rfl⟩
  with_reducible apply FromM.eq
  · intro w' hx; (try dsimp only [List.nil_append, List.cons_append, DepsL, DepsL1, setO, setN, favs, opsOf]); refine op_call 51 [.tmp 30, .tmp 38] _ _ _ rfl rfl rfl rfl rfl rfl (fun _ _ => Try.call51 _ _) (RInv_c _ _ _) (fun e w2 h_ => ?_); obtain ⟨rfl, hb2⟩ := h_; exact ⟨_, rfl, hb2, rfl⟩
  with_reducible apply FromM.eq
  · intro w' hx; (try dsimp only [List.nil_append, List.cons_append, DepsL, DepsL1, setO, setN, favs, opsOf]); go_wp2; exact OpPostE.some _ rfl rfl (Ext.refl _) rfl
  with_reducible refine FromM.fin ?_
  intro w' hx
  (try dsimp only [List.nil_append, List.cons_append, EndL, DepsL1, setO, setN])
  replace h1 := hx.cell h1
  replace m0 := hx.cell m0
  replace m2 := hx.cell m2
  replace m3 := hx.cell m3
  replace X := X.trans hx
  have RX := Lib.hid (RX.out.ext hx)
  have RY := Lib.hid (RY.out.ext hx)
  clear hx
  obtain ⟨w7, hw7⟩ : ∃ q : World, q = w' := ⟨_, rfl⟩
  subst hw7
  go_wp2_with fail
  go_loopw [13, 14] (ApRel p N l m (rx, xw) (ry, yw) w7) (fun _ i _ => N - (intOf i).toNat)
  case atStart => exact ⟨0, rfl, Nat.zero_le _, rfl, Ext.refl _⟩
  case round =>
    obtain ⟨j, rfl, hj, rfl, hext⟩ := hrel
    replace h1 := hext.cell h1
    replace m0 := hext.cell m0
    replace m2 := hext.cell m2
    replace m3 := hext.cell m3
    replace X := X.trans hext
    have HX := Lib.hid hext
    have hq := apC_le p l m (rx, xw) (ry, yw) j
    by_cases hlt : j < N
    · have E1 : Hid (apC p l m (rx, xw) (ry, yw) (j + 1) = apC p l m (rx, xw) (ry, yw) j + if offB p l m (rx, xw) (ry, yw) j = true then 1 else 0) := Lib.hid rfl
      have E2 : Hid (offB p l m (rx, xw) (ry, yw) j = (decide (fred p (l.getD j 0) ≠ fsub p (xw.getD j 0) (fmul p (fmul p (fsub p (yw.getD j 0) (xw.getD j 0)) (finv p (fsub p ry rx))) rx)) || decide (fred p (m.getD j 0) ≠ fmul p (fsub p (yw.getD j 0) (xw.getD j 0)) (finv p (fsub p ry rx))))) := Lib.hid (by rw [fmul_cm p _ rx]; rfl)
      obtain ⟨gx, ox, rfl, qx⟩ := RX.out.at (by rw [HXL.out.1]; omega)
      obtain ⟨gy, oy, rfl, qy⟩ := RY.out.at (by rw [HYL.out.1]; omega)
      obtain ⟨ga, oa, rfl, qa⟩ := HA.out.at (by rw [HLL.out]; omega)
      obtain ⟨gb, ob, rfl, qb⟩ := HB.out.at (by rw [HMM.out]; omega)
      have cx := hext.cell (qx j (by rw [HXL.out.1]; exact hlt))
      have cy := hext.cell (qy j (by rw [HYL.out.1]; exact hlt))
      have ca := X.cell (qa j (by rw [HLL.out]; exact hlt))
      have cb := X.cell (qb j (by rw [HMM.out]; exact hlt))
      obtain ⟨Q, hQ⟩ : ∃ q, q = apC p l m (rx, xw) (ry, yw) j := ⟨_, rfl⟩
      obtain ⟨XX, hX0⟩ : ∃ x, x = xw.getD j 0 := ⟨_, rfl⟩
      obtain ⟨YY, hY0⟩ : ∃ x, x = yw.getD j 0 := ⟨_, rfl⟩
      obtain ⟨AA, hA0⟩ : ∃ x, x = l.getD j 0 := ⟨_, rfl⟩
      obtain ⟨BB, hB0⟩ : ∃ x, x = m.getD j 0 := ⟨_, rfl⟩
      rw [← hQ] at hq E1
      rw [← hQ]
      rw [← hX0] at cx E2
      rw [← hY0] at cy E2
      rw [← hA0] at ca E2
      rw [← hB0] at cb E2
      clear hX0 hY0 hA0 hB0 qx qy qa qb hext hQ
      go_wp2_with fail
      refine region_factsL [[], [], [], [(2, 48)], [(3, 49)], [], [(4, 50), (5, 51)], [(6, 52)], [], [(8, 54)], [(9, 55)], [], [(10, 56), (11, 57)], [(12, 58)], [(1, 47), (7, 53), (13, 59)], [], [(0, 46), (14, 60), (15, 61)], [(16, 62)]] [some 46, some 47, some 48, some 49, some 50, some 51, some 52, some 53, some 54, some 55, some 56, some 57, some 58, some 59, some 60, some 61, some 62, some 15] [false, false, false, false, false, false, false, false, false, false, true, true, true, false, true, false, false, false, false, false, false, false, false, false, false, false, false, false, false, false, false, false, false, false, false, false, false, false, false, false, false, false, false, false, false, false, false, false, false, false, false, false, false, false, false, false, false, false, false, false, false, false, false, false, false, false, false, false, false, false, false, false, false, false, false, false, false, false, false, false, false, false, false, false, false, false, false, false, false, false, false, false, false, false, false, false, false, false] (by kernel_rfl) (by kernel_rfl) (by kernel_rfl) ?_
      dsimp only [maskL]
      with_reducible apply FromM.eq
      · intro w' hx; (try dsimp only [List.nil_append, List.cons_append, DepsL, DepsL1, setO, setN, favs, opsOf]); go_wp2; exact OpPostE.some _ rfl rfl (Ext.refl _) rfl
      with_reducible apply FromM.eq
      · intro w' hx; (try dsimp only [List.nil_append, List.cons_append, DepsL, DepsL1, setO, setN, favs, opsOf]); go_wp2; exact OpPostE.some _ rfl rfl (Ext.refl _) rfl
      with_reducible apply FromM.eq
      · intro w' hx; (try dsimp only [List.nil_append, List.cons_append, DepsL, DepsL1, setO, setN, favs, opsOf]); go_wp2; exact OpPostE.some _ rfl rfl (Ext.refl _) rfl
      with_reducible apply FromM.eq
      · intro w' hx; (try dsimp only [List.nil_append, List.cons_append, DepsL, DepsL1, setO, setN, favs, opsOf]); go_wp2; exact OpPostE.some _ rfl rfl (Ext.refl _) rfl
      with_reducible apply FromM.eq
      · intro w' hx; have m2x := hx.cell m2; have m3x := hx.cell m3; have cxx := hx.cell cx; have cyx := hx.cell cy; (try dsimp only [List.nil_append, List.cons_append, DepsL, DepsL1, setO, setN, favs, opsOf]); go_wp2; exact OpPostE.some _ rfl rfl (Ext.refl _) rfl
      with_reducible apply FromM.eq
      · intro w' hx; (try dsimp only [List.nil_append, List.cons_append, DepsL, DepsL1, setO, setN, favs, opsOf]); go_wp2; exact OpPostE.some _ rfl rfl (Ext.refl _) rfl
      with_reducible apply FromM.eq
      · intro w' hx; (try dsimp only [List.nil_append, List.cons_append, DepsL, DepsL1, setO, setN, favs, opsOf]); go_wp2; exact OpPostE.some _ rfl rfl (Ext.refl _) rfl
      with_reducible apply FromM.eq
      · intro w' hx; have m2x := hx.cell m2; have m3x := hx.cell m3; have cxx := hx.cell cx; have cyx := hx.cell cy; (try dsimp only [List.nil_append, List.cons_append, DepsL, DepsL1, setO, setN, favs, opsOf]); go_wp2; exact OpPostE.some _ rfl rfl (Ext.refl _) rfl
      with_reducible apply FromM.eq
      · intro w' hx; (try dsimp only [List.nil_append, List.cons_append, DepsL, DepsL1, setO, setN, favs, opsOf]); go_wp2; exact OpPostE.some _ rfl rfl (Ext.refl _) rfl
      with_reducible apply FromM.eq
      · intro w' hx; (try dsimp only [List.nil_append, List.cons_append, DepsL, DepsL1, setO, setN, favs, opsOf]); go_wp2; exact OpPostE.some _ rfl rfl (Ext.refl _) rfl
      with_reducible apply FromM.eq
      · intro w' hx; have m2x := hx.cell m2; have m3x := hx.cell m3; have cxx := hx.cell cx; have cyx := hx.cell cy; (try dsimp only [List.nil_append, List.cons_append, DepsL, DepsL1, setO, setN, favs, opsOf]); go_wp2; exact OpPostE.some _ rfl rfl (Ext.refl _) rfl
      with_reducible apply FromM.eq
      · intro w' hx; (try dsimp only [List.nil_append, List.cons_append, DepsL, DepsL1, setO, setN, favs, opsOf]); go_wp2; exact OpPostE.some _ rfl rfl (Ext.refl _) rfl
      with_reducible apply FromM.eq
      · intro w' hx; (try dsimp only [List.nil_append, List.cons_append, DepsL, DepsL1, setO, setN, favs, opsOf]); go_wp2; exact OpPostE.some _ rfl rfl (Ext.refl _) rfl
      with_reducible apply FromM.eq
      · intro w' hx; have m2x := hx.cell m2; have m3x := hx.cell m3; have cxx := hx.cell cx; have cyx := hx.cell cy; (try dsimp only [List.nil_append, List.cons_append, DepsL, DepsL1, setO, setN, favs, opsOf]); go_wp2; exact OpPostE.some _ rfl rfl (Ext.refl _) rfl
      with_reducible apply FromM.eq
      · intro w' hx; (try dsimp only [List.nil_append, List.cons_append, DepsL, DepsL1, setO, setN, favs, opsOf]); refine op_call 52 [.tmp 47, .tmp 53, .tmp 59] _ _ _ rfl rfl rfl rfl rfl rfl (fun _ _ => Try.call52 _ _) (RSub_c _ _ _ _) (fun e w2 h_ => ?_); obtain ⟨rfl, hb2⟩ := h_; exact ⟨_, rfl, hb2, rfl⟩
      with_reducible apply FromM.eq
      · intro w' hx; (try dsimp only [List.nil_append, List.cons_append, DepsL, DepsL1, setO, setN, favs, opsOf]); go_wp2; exact OpPostE.some _ rfl rfl (Ext.refl _) rfl
      with_reducible apply FromM.eq
      · intro w' hx; (try dsimp only [List.nil_append, List.cons_append, DepsL, DepsL1, setO, setN, favs, opsOf]); refine op_call 46 [.tmp 46, .tmp 60, .tmp 61] _ _ _ rfl rfl rfl rfl rfl rfl (fun _ _ => Try.call46 _ _) (RMul_c _ _ _ _) (fun e w2 h_ => ?_); obtain ⟨rfl, hb2⟩ := h_; exact ⟨_, rfl, hb2, rfl⟩
      with_reducible apply FromM.eq
      · intro w' hx; (try dsimp only [List.nil_append, List.cons_append, DepsL, DepsL1, setO, setN, favs, opsOf]); go_wp2; exact OpPostE.some _ rfl rfl (Ext.refl _) rfl
      with_reducible refine FromM.fin ?_
      intro w' hx
      (try dsimp only [List.nil_append, List.cons_append, EndL, DepsL1, setO, setN])
      replace m0 := hx.cell m0
      replace m2 := hx.cell m2
      replace cx := hx.cell cx
      replace ca := hx.cell ca
      replace cb := hx.cell cb
      have HX := Lib.hid (HX.out.trans hx)
      clear hx
      obtain ⟨w8, hw8⟩ : ∃ q : World, q = w' := ⟨_, rfl⟩
      subst hw8
      go_wp2_with fail
      refine region_factsL [[], [], [(1, 64)], [(2, 65)], [], [(3, 66), (4, 67)], [(5, 68)], [], [], [], [(9, 72)], [(10, 73)], [(7, 70), (8, 71), (11, 74)], [(0, 63), (6, 69), (12, 75)], [(13, 76)]] [some 63, some 64, some 65, some 66, some 67, some 68, some 69, some 70, some 71, some 72, some 73, some 74, some 75, some 76, some 16] [false, false, false, false, false, false, false, false, false, true, true, true, false, false, true, true, false, false, false, false, false, false, false, false, false, false, false, false, false, false, false, false, false, false, false, false, false, false, false, false, false, false, false, false, false, false, false, false, false, false, false, false, false, false, false, false, false, false, false, false, false, false, false, false, false, false, false, false, false, false, false, false, false, false, false, false, false, false, false, false, false, false, false, false, false, false, false, false, false, false, false, false, false, false, false, false, false, false] (by kernel_rfl) (by kernel_rfl) (by kernel_rfl) ?_
      dsimp only [maskL]
      with_reducible apply FromM.eq
      · intro w' hx; (try dsimp only [List.nil_append, List.cons_append, DepsL, DepsL1, setO, setN, favs, opsOf]); go_wp2; exact OpPostE.some _ rfl rfl (Ext.refl _) rfl
      with_reducible apply FromM.eq
      · intro w' hx; (try dsimp only [List.nil_append, List.cons_append, DepsL, DepsL1, setO, setN, favs, opsOf]); go_wp2; exact OpPostE.some _ rfl rfl (Ext.refl _) rfl
      with_reducible apply FromM.eq
      · intro w' hx; (try dsimp only [List.nil_append, List.cons_append, DepsL, DepsL1, setO, setN, favs, opsOf]); go_wp2; exact OpPostE.some _ rfl rfl (Ext.refl _) rfl
      with_reducible apply FromM.eq
      · intro w' hx; have m2x := hx.cell m2; have m0x := hx.cell m0; have cxx := hx.cell cx; (try dsimp only [List.nil_append, List.cons_append, DepsL, DepsL1, setO, setN, favs, opsOf]); go_wp2; exact OpPostE.some _ rfl rfl (Ext.refl _) rfl
      with_reducible apply FromM.eq
      · intro w' hx; (try dsimp only [List.nil_append, List.cons_append, DepsL, DepsL1, setO, setN, favs, opsOf]); go_wp2; exact OpPostE.some _ rfl rfl (Ext.refl _) rfl
      with_reducible apply FromM.eq
      · intro w' hx; (try dsimp only [List.nil_append, List.cons_append, DepsL, DepsL1, setO, setN, favs, opsOf]); go_wp2; exact OpPostE.some _ rfl rfl (Ext.refl _) rfl
      with_reducible apply FromM.eq
      · intro w' hx; have m2x := hx.cell m2; have m0x := hx.cell m0; have cxx := hx.cell cx; (try dsimp only [List.nil_append, List.cons_append, DepsL, DepsL1, setO, setN, favs, opsOf]); go_wp2; exact OpPostE.some _ rfl rfl (Ext.refl _) rfl
      with_reducible apply FromM.eq
      · intro w' hx; (try dsimp only [List.nil_append, List.cons_append, DepsL, DepsL1, setO, setN, favs, opsOf]); go_wp2; exact OpPostE.some _ rfl rfl (Ext.refl _) rfl
      with_reducible apply FromM.eq
      · intro w' hx; (try dsimp only [List.nil_append, List.cons_append, DepsL, DepsL1, setO, setN, favs, opsOf]); go_wp2; exact OpPostE.some _ rfl rfl (Ext.refl _) rfl
      with_reducible apply FromM.eq
      · intro w' hx; (try dsimp only [List.nil_append, List.cons_append, DepsL, DepsL1, setO, setN, favs, opsOf]); go_wp2; exact OpPostE.some _ rfl rfl (Ext.refl _) rfl
      with_reducible apply FromM.eq
      · intro w' hx; (try dsimp only [List.nil_append, List.cons_append, DepsL, DepsL1, setO, setN, favs, opsOf]); go_wp2; exact OpPostE.some _ rfl rfl (Ext.refl _) rfl
      with_reducible apply FromM.eq
      · intro w' hx; have m2x := hx.cell m2; have m0x := hx.cell m0; have cxx := hx.cell cx; (try dsimp only [List.nil_append, List.cons_append, DepsL, DepsL1, setO, setN, favs, opsOf]); go_wp2; exact OpPostE.some _ rfl rfl (Ext.refl _) rfl
      with_reducible apply FromM.eq
      · intro w' hx; (try dsimp only [List.nil_append, List.cons_append, DepsL, DepsL1, setO, setN, favs, opsOf]); refine op_call 46 [.tmp 70, .tmp 71, .tmp 74] _ _ _ rfl rfl rfl rfl rfl rfl (fun _ _ => Try.call46 _ _) (RMul_c _ _ _ _) (fun e w2 h_ => ?_); obtain ⟨rfl, hb2⟩ := h_; exact ⟨_, rfl, hb2, rfl⟩
      with_reducible apply FromM.eq
      · intro w' hx; (try dsimp only [List.nil_append, List.cons_append, DepsL, DepsL1, setO, setN, favs, opsOf]); refine op_call 52 [.tmp 63, .tmp 69, .tmp 75] _ _ _ rfl rfl rfl rfl rfl rfl (fun _ _ => Try.call52 _ _) (RSub_c _ _ _ _) (fun e w2 h_ => ?_); obtain ⟨rfl, hb2⟩ := h_; exact ⟨_, rfl, hb2, rfl⟩
      with_reducible apply FromM.eq
      · intro w' hx; (try dsimp only [List.nil_append, List.cons_append, DepsL, DepsL1, setO, setN, favs, opsOf]); go_wp2; exact OpPostE.some _ rfl rfl (Ext.refl _) rfl
      with_reducible refine FromM.fin ?_
      intro w' hx
      (try dsimp only [List.nil_append, List.cons_append, EndL, DepsL1, setO, setN])
      replace ca := hx.cell ca
      replace cb := hx.cell cb
      have HX := Lib.hid (HX.out.trans hx)
      clear hx
      obtain ⟨w9, hw9⟩ : ∃ q : World, q = w' := ⟨_, rfl⟩
      subst hw9
      obtain ⟨SL, hSL⟩ : ∃ q, q = fmul p (fsub p YY XX) (finv p (fsub p ry rx)) := ⟨_, rfl⟩
      rw [← hSL] at E2
      rw [← hSL]
      obtain ⟨ST, hST⟩ : ∃ q, q = fsub p XX (fmul p SL rx) := ⟨_, rfl⟩
      rw [← hST] at E2
      rw [← hST]
      obtain ⟨FA, hFA⟩ : ∃ q, q = fred p AA := ⟨_, rfl⟩
      obtain ⟨FB, hFB⟩ : ∃ q, q = fred p BB := ⟨_, rfl⟩
      rw [← hFA, ← hFB] at E2
      have RA : Hid (∀ w, Calls Try.prog 50 #[.int .u64 p, .int .u64 AA] w fun e w' => e = .returned (.int .u64 (FA : Int)) ∧ Ext w w') := Lib.hid (fun w => by rw [hFA]; exact RReduce_c p AA w)
      have RB : Hid (∀ w, Calls Try.prog 50 #[.int .u64 p, .int .u64 BB] w fun e w' => e = .returned (.int .u64 (FB : Int)) ∧ Ext w w') := Lib.hid (fun w => by rw [hFB]; exact RReduce_c p BB w)
      clear hSL hST hFA hFB cx m0 m2 m3
      by_cases qA : FA = ST
      · have t1 : ((FA : Int) != (ST : Int)) = false := by rw [qA]; simp
        by_cases qB : FB = SL
        · have t2 : ((FB : Int) != (SL : Int)) = false := by rw [qB]; simp
          have E3 : Hid (apC p l m (rx, xw) (ry, yw) (j + 1) = Q) := Lib.hid (by rw [E1.out, E2.out, if_neg (by simp [qA, qB]), Nat.add_zero])
          clear qA qB
          go_wp2_with fail
          refine (RA.out _).mono ?_; rintro e w10 ⟨rfl, x10⟩
          replace cb := x10.cell cb
          go_wp2_with fail
          refine (RB.out _).mono ?_; rintro e w11 ⟨rfl, x11⟩
          have HX := Lib.hid ((HX.out.trans x10).trans x11)
          clear x10 x11
          go_wp2_with fail
          go_roundw
          case rel => exact ⟨j + 1, by go_num, by omega, by rw [E3.out], HX.out⟩
          case measure => simp [intOf]; omega
        · have t2 : ((FB : Int) != (SL : Int)) = true := bne_iff_ne.2 (by omega)
          have E3 : Hid (apC p l m (rx, xw) (ry, yw) (j + 1) = Q + 1) := Lib.hid (by rw [E1.out, E2.out, if_pos (by simp [qB])])
          clear qA qB
          go_wp2_with fail
          refine (RA.out _).mono ?_; rintro e w10 ⟨rfl, x10⟩
          replace cb := x10.cell cb
          go_wp2_with fail
          refine (RB.out _).mono ?_; rintro e w11 ⟨rfl, x11⟩
          have HX := Lib.hid ((HX.out.trans x10).trans x11)
          clear x10 x11
          go_wp2_with fail
          go_roundw
          case rel => exact ⟨j + 1, by go_num, by omega, by rw [E3.out]; go_num, HX.out⟩
          case measure => simp [intOf]; omega
      · have t1 : ((FA : Int) != (ST : Int)) = true := bne_iff_ne.2 (by omega)
        have E3 : Hid (apC p l m (rx, xw) (ry, yw) (j + 1) = Q + 1) := Lib.hid (by rw [E1.out, E2.out, if_pos (by simp [qA])])
        clear qA
        go_wp2_with fail
        refine (RA.out _).mono ?_; rintro e w10 ⟨rfl, x10⟩
        have HX := Lib.hid (HX.out.trans x10)
        clear x10
        go_wp2_with fail
        go_roundw
        case rel => exact ⟨j + 1, by go_num, by omega, by rw [E3.out]; go_num, HX.out⟩
        case measure => simp [intOf]; omega
    · obtain rfl : j = N := by omega
      go_wp2_with fail
      go_ret
      rw [EA3.out]
      exact ⟨rfl, X⟩
end Go.Proofs.Ytgnngifnoaagjaa
