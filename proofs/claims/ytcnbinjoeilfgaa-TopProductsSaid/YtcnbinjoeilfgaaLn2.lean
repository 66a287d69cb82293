/- Contracts: Dot, columns, Valid, fits, Apply. -/
import Derived.Test.YtcnbinjoeilfgaaMt1
import Derived.Test.YtcnbinjoeilfgaaLn1
import Derived.Test.YtcnbinjoeilfgaaRegM
import Derived.Test.YtcnbinjoeilfgaaPoly
namespace Go.Proofs.Ytcnbinjoeilfgaa
open Go.RowKit

/-- The sum of the products of the first i elements. -/
def dotK (p : Nat) (a b : List Nat) : Nat → Nat
  | 0 => 0
  | i + 1 => fadd p (dotK p a b i) ((a.getD i 0 % p) * (b.getD i 0 % p) % p)
theorem dotK_lt {p : Nat} (hv : vld p = true) (a b : List Nat) : ∀ i, dotK p a b i < p
  | 0 => by have := vld_bd hv; show 0 < p; omega
  | i + 1 => Q.fadd_lt hv
def DtRel (p : Nat) (a b : List Nat) (w1 : World) (s i : Value) (wr : World) : Prop :=
  ∃ j : Nat, i = .int .i64 j ∧ j ≤ a.length ∧ s = .int .u64 ((dotK p a b j : Nat) : Int) ∧ Ext w1 wr
set_option maxRecDepth 100000 in
set_option maxHeartbeats 2000000 in
theorem Dot_c (p : Nat) (l m : List Nat) (a b : Option Addr) (c d : Nat) (w : World) (hv : vld p = true) (hlm : m.length = l.length) (ha : Rd w a l) (hb : Rd w b m) (hl : l.length ≤ 1000000) :
    Calls Try.prog 55 #[.agg #[.int .u64 p], .slice a l.length c, .slice b l.length d] w fun e w' => e = .returned (.int .u64 ((dotK p l m l.length : Nat) : Int)) ∧ Ext w w' := by
  have HA := Lib.hid ha
  have HB := Lib.hid hb
  have HLM := Lib.hid hlm
  have V := Lib.hid hv
  have hp := vld_bd hv
  clear ha hb hlm hv
  have h0 : (w.alloc (.cells #[.int .u64 p] 29)).cell? ⟨w.heap.size, 0, none⟩ = some (.int .u64 p) := by simp
  go_enter Try.func55, Try.ntmps55
  go_wp2_with fail
  refine (Valid_c _ _).mono ?_; rintro e w1 ⟨rfl, x1⟩; rw [V.out]
  replace h0 := x1.cell h0
  have X := x1.box
  clear x1
  go_wp2_with fail
  go_loopw [7, 17] (DtRel p l m w1) (fun _ i _ => l.length - (intOf i).toNat)
  case atStart => exact ⟨0, rfl, Nat.zero_le _, rfl, Ext.refl _⟩
  case round =>
    obtain ⟨j, rfl, hj, rfl, hext⟩ := hrel
    replace h0 := hext.cell h0
    replace X := X.trans hext
    have HX := Lib.hid hext
    clear hext
    by_cases hlt : j < l.length
    · have E1 : Hid (dotK p l m (j + 1) = fadd p (dotK p l m j) ((l.getD j 0 % p) * (m.getD j 0 % p) % p)) := Lib.hid rfl
      obtain ⟨ga, oa, rfl, qa⟩ := HA.out.at (by omega)
      obtain ⟨gb, ob, rfl, qb⟩ := HB.out.at (by rw [HLM.out]; omega)
      have ca := X.cell (qa j hlt)
      have cb := X.cell (qb j (by rw [HLM.out]; exact hlt))
      have hd := dotK_lt V.out l m j
      obtain ⟨S, hS⟩ : ∃ x, x = dotK p l m j := ⟨_, rfl⟩
      obtain ⟨x, hx0⟩ : ∃ x, x = l.getD j 0 := ⟨_, rfl⟩
      obtain ⟨y, hy0⟩ : ∃ x, x = m.getD j 0 := ⟨_, rfl⟩
      rw [← hS] at E1 hd
      rw [← hS]
      rw [← hx0] at ca E1
      rw [← hy0] at cb E1
      clear hS hx0 hy0 qa qb
      go_wp2_with fail
      refine region_factsL [[], [], [], [], [], [], [(4, 24), (5, 25)], [(6, 26)], [(3, 23), (7, 27)], [], [], [], [(10, 30), (11, 31)], [(12, 32)], [(9, 29), (13, 33)], [(2, 22), (8, 28), (14, 34)], [(0, 20), (1, 21), (15, 35)], [(16, 36)]] [some 20, some 21, some 22, some 23, some 24, some 25, some 26, some 27, some 28, some 29, some 30, some 31, some 32, some 33, some 34, some 35, some 36, some 7] [false, true, true, true, false, false, false, true, true, false, false, false, false, false, false, false, false, false, false, false, false, false, false, false, false, false, false, false, false, false, false, false, false, false, false, false, false, false, false] (by kernel_rfl) (by kernel_rfl) (by kernel_rfl) ?_
      dsimp only [maskL]
      with_reducible apply FromM.eq
      · intro w' hx; have h0x := hx.cell h0; have cax := hx.cell ca; have cbx := hx.cell cb; (try dsimp only [List.nil_append, List.cons_append, DepsL, DepsL1, setO, setN, favs, opsOf]); go_wp2; exact OpPostE.some _ rfl rfl (Ext.refl _) rfl
      with_reducible apply FromM.eq
      · intro w' hx; (try dsimp only [List.nil_append, List.cons_append, DepsL, DepsL1, setO, setN, favs, opsOf]); go_wp2; exact OpPostE.some _ rfl rfl (Ext.refl _) rfl
      with_reducible apply FromM.eq
      · intro w' hx; have h0x := hx.cell h0; have cax := hx.cell ca; have cbx := hx.cell cb; (try dsimp only [List.nil_append, List.cons_append, DepsL, DepsL1, setO, setN, favs, opsOf]); go_wp2; exact OpPostE.some _ rfl rfl (Ext.refl _) rfl
      with_reducible apply FromM.eq
      · intro w' hx; have h0x := hx.cell h0; have cax := hx.cell ca; have cbx := hx.cell cb; (try dsimp only [List.nil_append, List.cons_append, DepsL, DepsL1, setO, setN, favs, opsOf]); go_wp2; exact OpPostE.some _ rfl rfl (Ext.refl _) rfl
      with_reducible apply FromM.eq
      · intro w' hx; (try dsimp only [List.nil_append, List.cons_append, DepsL, DepsL1, setO, setN, favs, opsOf]); go_wp2; exact OpPostE.some _ rfl rfl (Ext.refl _) rfl
      with_reducible apply FromM.eq
      · intro w' hx; (try dsimp only [List.nil_append, List.cons_append, DepsL, DepsL1, setO, setN, favs, opsOf]); go_wp2; exact OpPostE.some _ rfl rfl (Ext.refl _) rfl
      with_reducible apply FromM.eq
      · intro w' hx; (try dsimp only [List.nil_append, List.cons_append, DepsL, DepsL1, setO, setN, favs, opsOf]); go_wp2; exact OpPostE.some _ rfl rfl (Ext.refl _) rfl
      with_reducible apply FromM.eq
      · intro w' hx; have h0x := hx.cell h0; have cax := hx.cell ca; have cbx := hx.cell cb; (try dsimp only [List.nil_append, List.cons_append, DepsL, DepsL1, setO, setN, favs, opsOf]); go_wp2; exact OpPostE.some _ rfl rfl (Ext.refl _) rfl
      with_reducible apply FromM.eq
      · intro w' hx; (try dsimp only [List.nil_append, List.cons_append, DepsL, DepsL1, setO, setN, favs, opsOf]); refine op_call 70 [.tmp 23, .tmp 27] _ _ _ rfl rfl rfl rfl rfl rfl (fun _ _ => Try.call70 _ _) (reduced_c _ _ _ (by omega)) (fun e w2 h_ => ?_); obtain ⟨rfl, hb2⟩ := h_; exact ⟨_, rfl, hb2, rfl⟩
      with_reducible apply FromM.eq
      · intro w' hx; have h0x := hx.cell h0; have cax := hx.cell ca; have cbx := hx.cell cb; (try dsimp only [List.nil_append, List.cons_append, DepsL, DepsL1, setO, setN, favs, opsOf]); go_wp2; exact OpPostE.some _ rfl rfl (Ext.refl _) rfl
      with_reducible apply FromM.eq
      · intro w' hx; (try dsimp only [List.nil_append, List.cons_append, DepsL, DepsL1, setO, setN, favs, opsOf]); go_wp2; exact OpPostE.some _ rfl rfl (Ext.refl _) rfl
      with_reducible apply FromM.eq
      · intro w' hx; (try dsimp only [List.nil_append, List.cons_append, DepsL, DepsL1, setO, setN, favs, opsOf]); go_wp2; exact OpPostE.some _ rfl rfl (Ext.refl _) rfl
      with_reducible apply FromM.eq
      · intro w' hx; (try dsimp only [List.nil_append, List.cons_append, DepsL, DepsL1, setO, setN, favs, opsOf]); go_wp2; exact OpPostE.some _ rfl rfl (Ext.refl _) rfl
      with_reducible apply FromM.eq
      · intro w' hx; have h0x := hx.cell h0; have cax := hx.cell ca; have cbx := hx.cell cb; (try dsimp only [List.nil_append, List.cons_append, DepsL, DepsL1, setO, setN, favs, opsOf]); go_wp2; exact OpPostE.some _ rfl rfl (Ext.refl _) rfl
      with_reducible apply FromM.eq
      · intro w' hx; (try dsimp only [List.nil_append, List.cons_append, DepsL, DepsL1, setO, setN, favs, opsOf]); refine op_call 70 [.tmp 29, .tmp 33] _ _ _ rfl rfl rfl rfl rfl rfl (fun _ _ => Try.call70 _ _) (reduced_c _ _ _ (by omega)) (fun e w2 h_ => ?_); obtain ⟨rfl, hb2⟩ := h_; exact ⟨_, rfl, hb2, rfl⟩
      with_reducible apply FromM.eq
      · intro w' hx; (try dsimp only [List.nil_append, List.cons_append, DepsL, DepsL1, setO, setN, favs, opsOf]); refine op_call 71 [.tmp 22, .tmp 28, .tmp 34] _ _ _ rfl rfl rfl rfl rfl rfl (fun _ _ => Try.call71 _ _) (mul_c _ _ _ _ V.out (Nat.mod_lt _ (by omega)) (Nat.mod_lt _ (by omega))) (fun e w2 h_ => ?_); obtain ⟨rfl, hb2⟩ := h_; exact ⟨_, rfl, hb2, rfl⟩
      with_reducible apply FromM.eq
      · intro w' hx; (try dsimp only [List.nil_append, List.cons_append, DepsL, DepsL1, setO, setN, favs, opsOf]); refine op_call 74 [.tmp 20, .tmp 21, .tmp 35] _ _ _ rfl rfl rfl rfl rfl rfl (fun _ _ => Try.call74 _ _) (add_c _ _ _ _ V.out hd (Nat.mod_lt _ (by omega))) (fun e w2 h_ => ?_); obtain ⟨rfl, hb2⟩ := h_; exact ⟨_, rfl, hb2, rfl⟩
      with_reducible apply FromM.eq
      · intro w' hx; (try dsimp only [List.nil_append, List.cons_append, DepsL, DepsL1, setO, setN, favs, opsOf]); go_wp2; exact OpPostE.some _ rfl rfl (Ext.refl _) rfl
      with_reducible refine FromM.fin ?_
      intro w' hx
      (try dsimp only [List.nil_append, List.cons_append, EndL, DepsL1, setO, setN])
      have HX := Lib.hid (HX.out.trans hx)
      clear hx
      go_wp2_with fail
      go_roundw
      case rel => exact ⟨j + 1, by go_num, by omega, by rw [E1.out], HX.out⟩
      case measure => simp [intOf]; omega
    · obtain rfl : j = l.length := by omega
      go_wp2_with fail
      go_ret
      exact ⟨rfl, X⟩
/-- A matrix of at most 64 rows of W elements. -/
structure MV (rows : List (List Nat)) (W : Nat) : Prop where
  pos : 0 < rows.length
  n : rows.length ≤ 64
  w : W ≤ 64
  len : ∀ i, i < rows.length → (rows.getD i []).length = W
set_option maxHeartbeats 1000000 in
theorem columns_c (rows : List (List Nat)) (W : Nat) (h : MV rows W) (a : Option Addr) (c : Nat) (w : World) (ha : RdR w a rows) :
    Calls Try.prog 54 #[.slice a rows.length c] w fun e w' => e = .returned (.int .i64 W) ∧ Ext w w' := by
  obtain ⟨g, o, rfl, hc⟩ := ha.at h.pos
  obtain ⟨ar, cr, c0, _⟩ := hc 0 h.pos
  rw [h.len 0 h.pos, Nat.add_zero] at c0
  have h0 := h.pos
  have t1 : ((rows.length : Int) == 0) = false := beq_eq_false_iff_ne.2 (by omega)
  clear ha hc h
  go_enter Try.func54, Try.ntmps54
  go_wp2_with fail
  go_ret
  exact ⟨rfl, Ext.refl _⟩
def VlRel (rows : List (List Nat)) (w1 : World) (i : Value) (wr : World) : Prop := ∃ j : Nat, i = .int .i64 j ∧ j ≤ rows.length ∧ Ext w1 wr
set_option maxRecDepth 100000 in
set_option maxHeartbeats 2000000 in
theorem LValid_c (rows : List (List Nat)) (W : Nat) (h : MV rows W) (a : Option Addr) (c : Nat) (w : World) (ha : RdR w a rows) :
    Calls Try.prog 76 #[.slice a rows.length c] w fun e w' => e = .returned (.bool true) ∧ Ext w w' := by
  have CC := Lib.hid (fun w' (h2 : RdR w' a rows) => columns_c rows W h a c w' h2)
  have HA := Lib.hid ha
  have HM := Lib.hid h
  have t1 : decide (64 < rows.length) = false := decide_eq_false (by have := h.n; omega)
  have t1' : decide ((64 : Int) < (rows.length : Int)) = false := decide_eq_false (by have := h.n; omega)
  have t2 : decide (64 < W) = false := decide_eq_false (by have := h.w; omega)
  have t2' : decide ((64 : Int) < (W : Int)) = false := decide_eq_false (by have := h.w; omega)
  have hn64 := h.n
  clear ha h
  go_enter Try.func76, Try.ntmps76
  go_wp2_with fail
  refine (CC.out _ HA.out).mono ?_; rintro e w1 ⟨rfl, x1⟩
  have HX1 := Lib.hid x1
  clear x1
  go_wp2_with fail
  go_loopw [15] (VlRel rows w1) (fun i _ => rows.length - (intOf i).toNat)
  case atStart => exact ⟨0, rfl, Nat.zero_le _, Ext.refl _⟩
  case round =>
    obtain ⟨j, rfl, hj, hext⟩ := hrel
    have HX := Lib.hid hext
    clear hext
    by_cases hlt : j < rows.length
    · obtain ⟨g, o, ha', hc⟩ := HA.out.at HM.out.pos
      obtain ⟨ar, cr, c0, _⟩ := hc j hlt
      rw [HM.out.len j hlt] at c0
      replace c0 := (HX1.out.trans HX.out).cell c0
      have HAW := Lib.hid (HA.out.ext (HX1.out.trans HX.out))
      subst ha'
      clear hc
      go_wp2_with fail
      refine (CC.out _ HAW.out).mono ?_; rintro e w2 ⟨rfl, x2⟩
      have HX := Lib.hid (HX.out.trans x2)
      clear x2
      go_wp2_with fail
      go_roundw
      case rel => exact ⟨j + 1, by go_num, by omega, HX.out⟩
      case measure => simp [intOf]; omega
    · have X := HX1.out.trans HX.out
      go_wp2_with fail
      go_ret
      exact ⟨rfl, X⟩
set_option maxHeartbeats 1000000 in
theorem fits_c (p : Nat) (rows : List (List Nat)) (W : Nat) (hv : vld p = true) (h : MV rows W) (a : Option Addr) (c : Nat) (w : World) (ha : RdR w a rows) :
    Calls Try.prog 53 #[.agg #[.int .u64 p], .slice a rows.length c] w fun e w' => e = .returned (.bool true) ∧ Ext w w' := by
  have LC := Lib.hid (fun w' (h2 : RdR w' a rows) => LValid_c rows W h a c w' h2)
  have HA := Lib.hid ha
  have V := Lib.hid hv
  have h0 : (w.alloc (.cells #[.int .u64 p] 29)).cell? ⟨w.heap.size, 0, none⟩ = some (.int .u64 p) := by simp
  clear ha h hv
  go_enter Try.func53, Try.ntmps53
  go_wp2_with fail
  refine (Valid_c _ _).mono ?_; rintro e w1 ⟨rfl, x1⟩; rw [V.out]
  have X := x1.box
  clear x1
  go_wp2_with fail
  refine (LC.out _ (HA.out.ext X)).mono ?_; rintro e w2 ⟨rfl, x2⟩
  replace X := X.trans x2
  clear x2
  go_wp2_with fail
  go_ret
  exact ⟨rfl, X⟩
/-- The product of a matrix and a vector. -/
def applyM (p : Nat) (rows : List (List Nat)) (v : List Nat) : List Nat := tab rows.length (fun i => dotK p (rows.getD i []) v v.length)
def ApRelL (p : Nat) (rows : List (List Nat)) (v : List Nat) (g : Nat) (w1 : World) (i : Value) (wr : World) : Prop :=
  ∃ j : Nat, i = .int .i64 j ∧ j ≤ rows.length ∧ Arr wr g (tab rows.length (fun t => if t < j then dotK p (rows.getD t []) v v.length else 0)) rows.length ∧ Ext w1 wr
set_option maxRecDepth 100000 in
set_option maxHeartbeats 4000000 in
theorem Apply_c (p : Nat) (rows : List (List Nat)) (v : List Nat) (hv : vld p = true) (h : MV rows v.length) (a b : Option Addr) (c d : Nat) (w : World) (ha : RdR w a rows) (hb : Rd w b v) :
    Calls Try.prog 25 #[.agg #[.int .u64 p], .slice a rows.length c, .slice b v.length d] w (SlPost w (applyM p rows v)) := by
  have FC := Lib.hid (fun w' (h2 : RdR w' a rows) => fits_c p rows v.length hv h a c w' h2)
  have CC := Lib.hid (fun w' (h2 : RdR w' a rows) => columns_c rows v.length h a c w' h2)
  have DC := Lib.hid (fun (l : List Nat) w' (a b : Option Addr) (c d : Nat) (hl : l.length = v.length) (h1 : Rd w' a l) (h2 : Rd w' b v) => by
    have q := Dot_c p l v a b c d w' hv hl.symm h1 h2 (by have := h.w; omega)
    rw [hl] at q; exact q)
  have HA := Lib.hid ha
  have HB := Lib.hid hb
  have HM := Lib.hid h
  have hn64 := h.n
  have hmk := make_c rows.length rows.length (Nat.le_refl _) (by omega)
  have h0 : (w.alloc (.cells #[.int .u64 p] 29)).cell? ⟨w.heap.size, 0, none⟩ = some (.int .u64 p) := by simp
  have E : Hid (applyM p rows v = tab rows.length (fun i => dotK p (rows.getD i []) v v.length)) := Lib.hid rfl
  clear ha hb h hv
  go_enter Try.func25, Try.ntmps25
  go_wp2_with fail
  refine (FC.out _ (HA.out.ext ((Ext.refl _).alloc _))).mono ?_; rintro e w1 ⟨rfl, x1⟩
  replace h0 := x1.cell h0
  have X := x1.box
  clear x1
  go_wp2_with fail
  refine (CC.out _ (HA.out.ext X)).mono ?_; rintro e w2 ⟨rfl, x2⟩
  replace h0 := x2.cell h0
  replace X := X.trans x2
  clear x2
  go_wp2_with fail
  clear hmk
  have H0 := Lib.hid h0
  have HX := Lib.hid X
  clear h0 X
  go_loopw [26] (ApRelL p rows v w2.heap.size w2) (fun i _ => rows.length - (intOf i).toNat)
  case atStart =>
    refine ⟨0, rfl, Nat.zero_le _, ?_, (Ext.refl _).alloc _⟩
    have := Arr.ofBlk (Blk.new w2 (rowA (List.replicate rows.length 0))) (by simp; omega)
    rw [List.length_replicate] at this
    rw [show tab rows.length (fun t => if t < 0 then dotK p (rows.getD t []) v v.length else 0) = List.replicate rows.length 0 from by unfold tab; apply List.ext_getElem <;> simp]; exact this
  case round =>
    obtain ⟨j, rfl, hj, ag, hext⟩ := hrel
    have HAG := Lib.hid ag
    have HE := Lib.hid hext
    have h0 := hext.cell H0.out
    clear ag hext
    by_cases hlt : j < rows.length
    · obtain ⟨g, o, ha', hc⟩ := HA.out.at HM.out.pos
      obtain ⟨ar, cr, c0, r0⟩ := hc j hlt
      rw [HM.out.len j hlt] at c0
      replace c0 := (HX.out.trans HE.out).cell c0
      have R0 := Lib.hid (r0.ext (HX.out.trans HE.out))
      have hlj := HM.out.len j hlt
      subst ha'
      have E1 : Hid ((tab rows.length (fun t => if t < j then dotK p (rows.getD t []) v v.length else 0)).set j (dotK p (rows.getD j []) v v.length) = tab rows.length (fun t => if t < j + 1 then dotK p (rows.getD t []) v v.length else 0)) := Lib.hid (tab_upd fun t _ => by
        by_cases e : t = j
        · subst e; rw [if_pos (by omega), if_pos rfl]
        · rw [if_neg e]
          by_cases h : t < j
          · rw [if_pos h, if_pos (by omega)]
          · rw [if_neg h, if_neg (by omega)])
      obtain ⟨r, hr⟩ : ∃ r, r = rows.getD j [] := ⟨_, rfl⟩
      rw [← hr] at R0 E1 hlj
      have HLJ := Lib.hid hlj
      clear hc r0 hr hlj
      go_wp2_with fail
      refine (DC.out r _ _ _ _ _ HLJ.out R0.out (HB.out.ext (HX.out.trans HE.out))).mono ?_; rintro e w3 ⟨rfl, x3⟩
      have A3 := HAG.out.ext x3
      have f3 := A3.frozen j
      have k3 := A3.at (i := j) (by rw [tab_len]; exact hlt)
      have HA3 := Lib.hid A3
      have HE3 := Lib.hid (HE.out.trans x3)
      clear A3 x3 c0 h0
      go_wp2_with fail
      go_roundw
      case rel =>
        refine ⟨j + 1, by go_num, by omega, ?_, HE3.out.setNew (Nat.le_refl _) _⟩
        rw [← E1.out]; exact HA3.out.set j _ (by rw [tab_len]; exact hlt)
      case measure => simp [intOf]; omega
    · obtain rfl : j = rows.length := by omega
      have HO : Hid (Own wr w.heap.size (.slice (some ⟨w2.heap.size, 0, none⟩) rows.length rows.length) (applyM p rows v)) := Lib.hid (by
        have := HAG.out.own (base := w.heap.size) HX.out.size
        rw [tab_len, tab_congr (G := fun i => dotK p (rows.getD i []) v v.length) (fun t ht => by rw [if_pos ht])] at this
        rw [E.out]; exact this)
      have XX := HX.out.trans HE.out
      clear h0
      go_wp2_with fail
      go_ret
      exact ⟨_, rfl, HO.out, XX⟩
end Go.Proofs.Ytcnbinjoeilfgaa
