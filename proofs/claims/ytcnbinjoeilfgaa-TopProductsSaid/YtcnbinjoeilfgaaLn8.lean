/- Contracts: linear.Determinant, extension.Norm; append where no room is left. -/
import Derived.Test.YtcnbinjoeilfgaaLn7
import Derived.Test.YtcnbinjoeilfgaaLn3
namespace Go.Proofs.Ytcnbinjoeilfgaa
open Go.RowKit
theorem redM_len (p : Nat) (rows : List (List Nat)) : (redM p rows).length = rows.length := by unfold redM; simp
theorem redM_get (p : Nat) (rows : List (List Nat)) (i : Nat) : (redM p rows).getD i [] = (rows.getD i []).map (fred p) := by
  unfold redM
  simp only [List.getD_eq_getElem?_getD, List.getElem?_map]
  cases h : rows[i]? <;> simp
theorem fred_lt {p : Nat} (hv : vld p = true) (n : Nat) : fred p n < p := by
  have := vld_bd hv
  unfold fred
  rw [if_pos hv]; exact Nat.mod_lt _ (by omega)
theorem redM_red {p W : Nat} {rows : List (List Nat)} (hv : vld p = true) (h : ∀ i, i < rows.length → (rows.getD i []).length = W) : Redd p W (redM p rows) := by
  have hp := vld_bd hv
  refine ⟨fun i hi => ?_, fun i j => ?_⟩
  · rw [redM_get, List.length_map]; exact h i (by rw [redM_len] at hi; exact hi)
  · rw [redM_get, List.getD_eq_getElem?_getD, List.getElem?_map]
    cases h : (rows.getD i [])[j]?
    · simp; omega
    · simp; exact fred_lt hv _
set_option maxRecDepth 100000 in
set_option maxHeartbeats 4000000 in
theorem Det_c (p : Nat) (rows : List (List Nat)) (hv : vld p = true) (h : MV rows rows.length) (hp : (elimE p (redM p rows) rows.length).2.1.length = rows.length) (a : Option Addr) (c : Nat) (w : World) (ha : RdR w a rows) :
    Calls Try.prog 51 #[.agg #[.int .u64 p], .slice a rows.length c] w fun e w' => e = .returned (.int .u64 (((elimE p (redM p rows) rows.length).2.2 : Nat) : Int)) ∧ Ext w w' := by
  have FC := Lib.hid (fun w' (h2 : RdR w' a rows) => fits_c p rows rows.length hv h a c w' h2)
  have CC := Lib.hid (fun w' (h2 : RdR w' a rows) => columns_c rows rows.length h a c w' h2)
  have RC := Lib.hid (fun w' (h2 : RdR w' a rows) => lreduced_c p rows rows.length h a c w' h2)
  have HA := Lib.hid ha
  have V := Lib.hid hv
  have HP := Lib.hid hp
  have EC := Lib.hid (fun (gm : Nat) (L : List SlC) (w0 w : World) (hM : Mat w w0.heap.size gm L (redM p rows)) (hL : L.length = (redM p rows).length) (hX : Ext w0 w) =>
    elim_c p gm rows.length rows.length rows.length L (redM p rows) w0 w hv hM hL hX (redM_red hv h.len) (redM_len _ _) h.n (by have := h.w; omega) (Nat.le_refl _))
  have h0 : (w.alloc (.cells #[.int .u64 p] 29)).cell? ⟨w.heap.size, 0, none⟩ = some (.int .u64 p) := by simp
  clear ha h hv hp
  go_enter Try.func51, Try.ntmps51
  go_wp2_with fail
  refine (FC.out _ (HA.out.ext ((Ext.refl _).alloc _))).mono ?_; rintro e w1 ⟨rfl, x1⟩
  replace h0 := x1.cell h0
  have X := x1.box
  clear x1
  go_wp2_with fail
  refine (CC.out _ (HA.out.ext X)).mono ?_; rintro e w2 ⟨rfl, x2⟩
  replace h0 := x2.cell h0
  replace X := X.trans x2
  clear x2
  go_wp2_with fail
  refine (RC.out _ (HA.out.ext X)).mono ?_; rintro e w3 ⟨gm, L, rfl, hL, mt, _, x3⟩
  rw [redM_len]
  replace h0 := x3.cell h0
  have HMT := Lib.hid (And.intro hL (And.intro mt x3))
  have XX := X.trans x3
  clear hL mt x3
  go_wp2_with fail
  refine (EC.out gm L w2 w3 HMT.out.2.1 HMT.out.1 HMT.out.2.2).mono ?_; rintro e w4 ⟨v, L4, rfl, hE⟩
  obtain ⟨a8, c8, h8, _, _, _⟩ := hE.piv.form
  rw [List.length_map, HP.out] at h8
  subst h8
  have X4 := X.trans hE.ext
  clear hE h0 XX
  obtain ⟨fac, hfac⟩ : ∃ q, q = (elimE p (redM p rows) rows.length).2.2 := ⟨_, rfl⟩
  rw [← hfac]
  have HF := Lib.hid hfac
  clear hfac
  go_wp2_with fail
  go_ret
  exact ⟨by rw [← HF.out]; rfl, X4⟩
set_option maxHeartbeats 2000000 in
theorem Norm_c (p a b : Nat) (w : World) :
    Calls Try.prog 52 #[.agg #[.int .u64 p], .agg #[.int .u64 a, .int .u64 b]] w fun e w' => e = .returned (.int .u64 ((fsub p (fmul p a a) (fmul p (gent p) (fmul p b b)) : Nat) : Int)) ∧ Ext w w' := by
  have h0 : ((w.alloc (.cells #[.int .u64 p] 29)).alloc (.cells #[.int .u64 a, .int .u64 b] 71)).cell? ⟨w.heap.size, 0, none⟩ = some (.int .u64 p) := ((Ext.refl _).alloc _).cell (by simp)
  have k0 : ((w.alloc (.cells #[.int .u64 p] 29)).alloc (.cells #[.int .u64 a, .int .u64 b] 71)).cell? ⟨w.heap.size + 1, 0, none⟩ = some (.int .u64 a) := by
    rw [cnew _ _ _ _ _ (by simp)]; rfl
  have k1 : ((w.alloc (.cells #[.int .u64 p] 29)).alloc (.cells #[.int .u64 a, .int .u64 b] 71)).cell? ⟨w.heap.size + 1, 1, none⟩ = some (.int .u64 b) := by
    rw [cnew _ _ _ _ _ (by simp)]; rfl
  have X : Ext w ((w.alloc (.cells #[.int .u64 p] 29)).alloc (.cells #[.int .u64 a, .int .u64 b] 71)) := ((Ext.refl _).alloc _).alloc _
  go_enter Try.func52, Try.ntmps52
  go_wp2_with fail
  refine region_factsL [[], [], [], [(2, 7)], [], [(4, 9)], [(1, 6), (3, 8), (5, 10)], [], [], [(8, 13)], [], [], [(11, 16)], [], [(13, 18)], [(10, 15), (12, 17), (14, 19)], [(7, 12), (9, 14), (15, 20)], [(0, 5), (6, 11), (16, 21)], [(17, 22)]] [some 5, some 6, some 7, some 8, some 9, some 10, some 11, some 12, some 13, some 14, some 15, some 16, some 17, some 18, some 19, some 20, some 21, some 22, some 4] [false, false, true, true, false, false, false, false, false, false, false, false, false, false, false, false, false, false, false, false, false, false, false] (by kernel_rfl) (by kernel_rfl) (by kernel_rfl) ?_
  dsimp only [maskL]
  with_reducible apply FromM.eq
  · intro w' hx; have h0x := hx.cell h0; have k0x := hx.cell k0; have k1x := hx.cell k1; (try dsimp only [List.nil_append, List.cons_append, DepsL, DepsL1, setO, setN, favs, opsOf]); go_wp2; exact OpPostE.some _ rfl rfl (Ext.refl _) rfl
  with_reducible apply FromM.eq
  · intro w' hx; have h0x := hx.cell h0; have k0x := hx.cell k0; have k1x := hx.cell k1; (try dsimp only [List.nil_append, List.cons_append, DepsL, DepsL1, setO, setN, favs, opsOf]); go_wp2; exact OpPostE.some _ rfl rfl (Ext.refl _) rfl
  with_reducible apply FromM.eq
  · intro w' hx; (try dsimp only [List.nil_append, List.cons_append, DepsL, DepsL1, setO, setN, favs, opsOf]); go_wp2; exact OpPostE.some _ rfl rfl (Ext.refl _) rfl
  with_reducible apply FromM.eq
  · intro w' hx; have h0x := hx.cell h0; have k0x := hx.cell k0; have k1x := hx.cell k1; (try dsimp only [List.nil_append, List.cons_append, DepsL, DepsL1, setO, setN, favs, opsOf]); go_wp2; exact OpPostE.some _ rfl rfl (Ext.refl _) rfl
  with_reducible apply FromM.eq
  · intro w' hx; (try dsimp only [List.nil_append, List.cons_append, DepsL, DepsL1, setO, setN, favs, opsOf]); go_wp2; exact OpPostE.some _ rfl rfl (Ext.refl _) rfl
  with_reducible apply FromM.eq
  · intro w' hx; have h0x := hx.cell h0; have k0x := hx.cell k0; have k1x := hx.cell k1; (try dsimp only [List.nil_append, List.cons_append, DepsL, DepsL1, setO, setN, favs, opsOf]); go_wp2; exact OpPostE.some _ rfl rfl (Ext.refl _) rfl
  with_reducible apply FromM.eq
  · intro w' hx; (try dsimp only [List.nil_append, List.cons_append, DepsL, DepsL1, setO, setN, favs, opsOf]); refine op_call 44 [.tmp 6, .tmp 8, .tmp 10] _ _ _ rfl rfl rfl rfl rfl rfl (fun _ _ => Try.call44 _ _) (Mul_c _ _ _ _) (fun e w2 h_ => ?_); obtain ⟨rfl, hb2⟩ := h_; exact ⟨_, rfl, hb2, rfl⟩
  with_reducible apply FromM.eq
  · intro w' hx; have h0x := hx.cell h0; have k0x := hx.cell k0; have k1x := hx.cell k1; (try dsimp only [List.nil_append, List.cons_append, DepsL, DepsL1, setO, setN, favs, opsOf]); go_wp2; exact OpPostE.some _ rfl rfl (Ext.refl _) rfl
  with_reducible apply FromM.eq
  · intro w' hx; have h0x := hx.cell h0; have k0x := hx.cell k0; have k1x := hx.cell k1; (try dsimp only [List.nil_append, List.cons_append, DepsL, DepsL1, setO, setN, favs, opsOf]); go_wp2; exact OpPostE.some _ rfl rfl (Ext.refl _) rfl
  with_reducible apply FromM.eq
  · intro w' hx; (try dsimp only [List.nil_append, List.cons_append, DepsL, DepsL1, setO, setN, favs, opsOf]); refine op_call 75 [.tmp 13] _ _ _ rfl rfl rfl rfl rfl rfl (fun _ _ => Try.call75 _ _) (Generator_c _ _) (fun e w2 h_ => ?_); obtain ⟨rfl, hb2⟩ := h_; exact ⟨_, rfl, hb2, rfl⟩
  with_reducible apply FromM.eq
  · intro w' hx; have h0x := hx.cell h0; have k0x := hx.cell k0; have k1x := hx.cell k1; (try dsimp only [List.nil_append, List.cons_append, DepsL, DepsL1, setO, setN, favs, opsOf]); go_wp2; exact OpPostE.some _ rfl rfl (Ext.refl _) rfl
  with_reducible apply FromM.eq
  · intro w' hx; (try dsimp only [List.nil_append, List.cons_append, DepsL, DepsL1, setO, setN, favs, opsOf]); go_wp2; exact OpPostE.some _ rfl rfl (Ext.refl _) rfl
  with_reducible apply FromM.eq
  · intro w' hx; have h0x := hx.cell h0; have k0x := hx.cell k0; have k1x := hx.cell k1; (try dsimp only [List.nil_append, List.cons_append, DepsL, DepsL1, setO, setN, favs, opsOf]); go_wp2; exact OpPostE.some _ rfl rfl (Ext.refl _) rfl
  with_reducible apply FromM.eq
  · intro w' hx; (try dsimp only [List.nil_append, List.cons_append, DepsL, DepsL1, setO, setN, favs, opsOf]); go_wp2; exact OpPostE.some _ rfl rfl (Ext.refl _) rfl
  with_reducible apply FromM.eq
  · intro w' hx; have h0x := hx.cell h0; have k0x := hx.cell k0; have k1x := hx.cell k1; (try dsimp only [List.nil_append, List.cons_append, DepsL, DepsL1, setO, setN, favs, opsOf]); go_wp2; exact OpPostE.some _ rfl rfl (Ext.refl _) rfl
  with_reducible apply FromM.eq
  · intro w' hx; (try dsimp only [List.nil_append, List.cons_append, DepsL, DepsL1, setO, setN, favs, opsOf]); refine op_call 44 [.tmp 15, .tmp 17, .tmp 19] _ _ _ rfl rfl rfl rfl rfl rfl (fun _ _ => Try.call44 _ _) (Mul_c _ _ _ _) (fun e w2 h_ => ?_); obtain ⟨rfl, hb2⟩ := h_; exact ⟨_, rfl, hb2, rfl⟩
  with_reducible apply FromM.eq
  · intro w' hx; (try dsimp only [List.nil_append, List.cons_append, DepsL, DepsL1, setO, setN, favs, opsOf]); refine op_call 44 [.tmp 12, .tmp 14, .tmp 20] _ _ _ rfl rfl rfl rfl rfl rfl (fun _ _ => Try.call44 _ _) (Mul_c _ _ _ _) (fun e w2 h_ => ?_); obtain ⟨rfl, hb2⟩ := h_; exact ⟨_, rfl, hb2, rfl⟩
  with_reducible apply FromM.eq
  · intro w' hx; (try dsimp only [List.nil_append, List.cons_append, DepsL, DepsL1, setO, setN, favs, opsOf]); refine op_call 68 [.tmp 5, .tmp 11, .tmp 21] _ _ _ rfl rfl rfl rfl rfl rfl (fun _ _ => Try.call68 _ _) (Sub_c _ _ _ _) (fun e w2 h_ => ?_); obtain ⟨rfl, hb2⟩ := h_; exact ⟨_, rfl, hb2, rfl⟩
  with_reducible apply FromM.eq
  · intro w' hx; (try dsimp only [List.nil_append, List.cons_append, DepsL, DepsL1, setO, setN, favs, opsOf]); go_wp2; exact OpPostE.some _ rfl rfl (Ext.refl _) rfl
  with_reducible refine FromM.fin ?_
  intro w' hx
  (try dsimp only [List.nil_append, List.cons_append, EndL, DepsL1, setO, setN])
  have X2 := X.trans hx
  go_wp2_with fail
  go_ret
  exact ⟨rfl, X2⟩
end Go.Proofs.Ytcnbinjoeilfgaa
