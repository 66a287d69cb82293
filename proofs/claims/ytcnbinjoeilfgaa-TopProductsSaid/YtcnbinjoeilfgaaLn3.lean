/- Contract: linear.reduced. -/
import Derived.Test.YtcnbinjoeilfgaaLn2
namespace Go.Proofs.Ytcnbinjoeilfgaa
open Go.RowKit
theorem make_v (n : Nat) (hn : n ≤ 1000000) (w : World) : (Instr.makeSlice 42 (.int .i64 (n : Int)) (.int .i64 (n : Int))).run Try.prog w =
    .ok (.slice (some ⟨w.heap.size, 0, none⟩) n n) (w.alloc (.cells (celL (List.replicate n (none, 0, 0))).toArray 23)) := by
  obtain ⟨i0, hi, hz0, hz1, hz2⟩ := info_parts info_sl
  have h := run_make (P := Try.prog) w 42 23 i0 (.slice none 0 0) Try.underlying42 hi hz0 .i64 .i64 n n (by omega) (by omega) (by rw [hz2]; omega) (by omega)
  rw [h, hz1]
  have : (Value.slice none 0 0).cells = #[.slice none 0 0] := rfl
  have e : madeCells #[Value.slice none 0 0] n = (celL (List.replicate n (none, 0, 0))).toArray := by
    unfold madeCells celL
    apply Array.ext
    · simp
    · intro i h1 h2
      simp [Nat.mod_one, celV]
  simp only [Int.toNat_natCast, Nat.mul_one, this, e]
def redM (p : Nat) (rows : List (List Nat)) : List (List Nat) := rows.map (fun r => r.map (fred p))
def RdoRel (p W : Nat) (rows : List (List Nat)) (gm : Nat) (w1 : World) (s : Value) (wr : World) : Prop :=
  ∃ (j : Nat) (L : List SlC), s = .int .i64 j ∧ j ≤ rows.length ∧ L.length = rows.length ∧ Mat wr w1.heap.size gm L (redM p (rows.take j)) ∧ (∀ i, i < j → (L.getD i (none, 0, 0)).2.2 = W) ∧ Ext w1 wr
def RdiRel (p W : Nat) (R : List (List Nat)) (r : List Nat) (gm : Nat) (L : List SlC) (w1 : World) (s : Value) (wr : World) : Prop :=
  ∃ t : Nat, s = .int .i64 t ∧ t ≤ W ∧ Mat wr w1.heap.size gm L (R ++ [tab W (fun i => if i < t then fred p (r.getD i 0) else 0)]) ∧ Ext w1 wr
def MPost (w : World) (rows : List (List Nat)) (W : Nat) (e : Ending) (w' : World) : Prop :=
  ∃ gm L, e = .returned (.slice (some ⟨gm, 0, none⟩) rows.length rows.length) ∧ L.length = rows.length ∧ Mat w' w.heap.size gm L rows ∧ (∀ i, i < rows.length → (L.getD i (none, 0, 0)).2.2 = W) ∧ Ext w w'
theorem tab_map (l : List Nat) (F : Nat → Nat) : tab l.length (fun i => F (l.getD i 0)) = l.map F := by
  apply List.ext_getElem?
  intro i
  unfold tab
  simp only [List.getElem?_map]
  by_cases h : i < l.length
  · rw [List.getElem?_eq_getElem (by simpa using h), List.getElem?_eq_getElem h]
    simp [List.getElem?_eq_getElem h]
  · rw [List.getElem?_eq_none (by simpa using h), List.getElem?_eq_none (by omega)]; rfl
theorem snoc_getD {α : Type} (l : List α) (x d : α) : (l ++ [x]).getD l.length d = x := by
  rw [List.getD_eq_getElem?_getD, List.getElem?_append_right (Nat.le_refl _)]; simp
theorem snoc_set {α : Type} (l : List α) (x y : α) : (l ++ [x]).set l.length y = l ++ [y] := by
  rw [List.set_append_right _ _ (Nat.le_refl _)]; simp

set_option maxRecDepth 100000 in
set_option maxHeartbeats 4000000 in
theorem lreduced_c (p : Nat) (rows : List (List Nat)) (W : Nat) (h : MV rows W) (a : Option Addr) (c : Nat) (w : World) (ha : RdR w a rows) :
    Calls Try.prog 64 #[.agg #[.int .u64 p], .slice a rows.length c] w (MPost w (redM p rows) W) := by
  have HA := Lib.hid ha
  have HM := Lib.hid h
  have hn64 := h.n
  have hw64 := h.w
  have hmv := make_v rows.length (by omega)
  have hmk := make_c W W (Nat.le_refl _) (by omega)
  have h0 : (w.alloc (.cells #[.int .u64 p] 29)).cell? ⟨w.heap.size, 0, none⟩ = some (.int .u64 p) := by simp
  clear ha h
  go_enter Try.func64, Try.ntmps64
  go_wp2_with fail
  obtain ⟨w2, hw2⟩ : ∃ q, q = w.alloc (.cells #[.int .u64 p] 29) := ⟨_, rfl⟩
  rw [← hw2] at h0
  rw [← hw2]
  have X : Ext w w2 := by rw [hw2]; exact (Ext.refl _).alloc _
  have hs2 : w2.heap.size = w.heap.size + 1 := by rw [hw2]; simp
  have HX := Lib.hid X
  have H0 := Lib.hid h0
  obtain ⟨gm, hgm⟩ : ∃ q, q = w.heap.size + 1 := ⟨_, rfl⟩
  rw [← hgm]
  have HGM : Hid (gm = w2.heap.size) := Lib.hid (by omega)
  clear hw2 h0 X hmv hs2 hgm
  go_loopw [15] (RdoRel p W rows gm w2) (fun i _ => rows.length - (intOf i).toNat)
  case atStart =>
    refine ⟨0, List.replicate rows.length (none, 0, 0), rfl, Nat.zero_le _, by simp, ⟨Nat.zero_le _, ?_, by rw [HGM.out]; exact Nat.le_refl _, fun i hi => absurd hi (by simp [redM]), fun i j hi => absurd hi (by simp [redM])⟩, fun i hi => absurd hi (by omega), (Ext.refl _).alloc _⟩
    rw [HGM.out]; exact heap_alloc_new w2 _
  case round =>
    obtain ⟨j, L, rfl, hj, hL, mt, hcp, hext⟩ := hrel
    have HCP := Lib.hid hcp
    clear hcp
    have HE := Lib.hid hext
    have HMT := Lib.hid mt
    have HLL := Lib.hid hL
    have h0 := hext.cell H0.out
    clear hext mt hL
    by_cases hlt : j < rows.length
    · obtain ⟨g, o, ha', hc⟩ := HA.out.at HM.out.pos
      obtain ⟨ar, cr, c0, r0⟩ := hc j hlt
      rw [HM.out.len j hlt] at c0
      replace c0 := (HX.out.trans HE.out).cell c0
      have R0 := Lib.hid r0
      have hlj := HM.out.len j hlt
      subst ha'
      have hRl : (redM p (rows.take j)).length = j := by unfold redM; simp; omega
      have E1 : Hid (redM p (rows.take (j + 1)) = redM p (rows.take j) ++ [(rows.getD j []).map (fred p)]) := Lib.hid (by
        unfold redM
        rw [List.take_add_one, List.getElem?_eq_getElem hlt, List.map_append]; simp [List.getD, List.getElem?_eq_getElem hlt])
      obtain ⟨r, hr⟩ : ∃ r, r = rows.getD j [] := ⟨_, rfl⟩
      rw [← hr] at R0 E1 hlj
      obtain ⟨R, hR⟩ : ∃ R, R = redM p (rows.take j) := ⟨_, rfl⟩
      rw [← hR] at HMT E1 hRl
      have HLJ := Lib.hid hlj
      have al := (Ext.refl wr).alloc (.cells (rowA (List.replicate W 0)) 22)
      have M1 := HMT.out.ext al
      have fz := M1.heads.frozen j
      have kz := M1.heads.at (i := j) (by rw [HLL.out]; exact hlt)
      have hgml : gm < wr.heap.size := HMT.out.heads.lt
      have hsz := HE.out.size
      have S1 := M1.snoc (g := wr.heap.size) (c := W) (r := List.replicate W 0) (by rw [hRl, HLL.out]; exact hlt) (by
        have := Arr.ofBlk (Blk.new wr (rowA (List.replicate W 0))) (by simp; omega)
        rw [List.length_replicate] at this; exact this) hsz (by omega) (fun i hi q => by have := (HMT.out.row i hi).arr.lt; omega)
      rw [hRl, List.length_replicate] at S1
      have HS1 := Lib.hid S1
      have HSZ := Lib.hid hsz
      have HRL := Lib.hid hRl
      have HGL : Hid (w2.heap.size ≤ gm) := Lib.hid (by rw [HGM.out]; exact Nat.le_refl _)
      have HEA := Lib.hid ((HE.out.trans al).setNew (p := ⟨gm, j, none⟩) HGL.out (.slice (some ⟨wr.heap.size, 0, none⟩) W W))
      clear hc r0 hr hR hlj M1 S1 hsz hRl al
      go_wp2_with fail
      have hcm := World.setCell_alloc_past (w := wr) (.cells (rowA (List.replicate W 0)) 22) gm j (.slice (some ⟨wr.heap.size, 0, none⟩) W W) hgml
      rw [hcm] at HS1 HEA
      obtain ⟨w5, hw5⟩ : ∃ q, q = (wr.setCell ⟨gm, j, none⟩ (.slice (some ⟨wr.heap.size, 0, none⟩) W W)).alloc (.cells (rowA (List.replicate W 0)) 22) := ⟨_, rfl⟩
      rw [← hw5] at HS1 HEA
      rw [← hw5]
      obtain ⟨L5, hL5⟩ : ∃ q, q = L.set j (some (⟨wr.heap.size, 0, none⟩ : Addr), W, W) := ⟨_, rfl⟩
      rw [← hL5] at HS1
      have HL5 : Hid (L5.length = rows.length) := Lib.hid (by rw [hL5, List.length_set]; exact HLL.out)
      have HC5 : Hid (∀ i, i < j + 1 → (L5.getD i (none, 0, 0)).2.2 = W) := Lib.hid (fun i hi => by
        rw [hL5, set_getD _ _ _ _ _ (by rw [HLL.out]; exact hlt)]
        by_cases e : i = j
        · rw [if_pos e]
        · rw [if_neg e]; exact HCP.out i (by omega))
      clear hcm hw5 hL5 fz kz hgml c0 h0 hmk
      go_loopw [28] (RdiRel p W R r gm L5 w2) (fun i _ => W - (intOf i).toNat)
      case atStart =>
        refine ⟨0, rfl, Nat.zero_le _, ?_, HEA.out⟩
        rw [show tab W (fun i => if i < 0 then fred p (r.getD i 0) else 0) = List.replicate W 0 from by unfold tab; apply List.ext_getElem <;> simp]; exact HS1.out
      case round =>
        obtain ⟨t, rfl, ht, mt, hext⟩ := hrel
        have HMT2 := Lib.hid mt
        have HE2 := Lib.hid hext
        have h0 := hext.cell H0.out
        clear mt hext
        by_cases hlt2 : t < W
        · obtain ⟨gr, or_, rfl, qr⟩ := R0.out.at (by rw [HLJ.out]; omega)
          have cr2 := (HX.out.trans HE2.out).cell (qr t (by rw [HLJ.out]; exact hlt2))
          obtain ⟨X, hX⟩ : ∃ X, X = tab W (fun i => if i < t then fred p (r.getD i 0) else 0) := ⟨_, rfl⟩
          rw [← hX] at HMT2
          have hXl : X.length = W := by rw [hX, tab_len]
          have e1 := snoc_getD R X []
          rw [HRL.out] at e1
          have hjR : j < (R ++ [X]).length := by rw [List.length_append, HRL.out]; simp
          have kh := HMT2.out.head hjR
          rw [e1, hXl] at kh
          have E2 : Hid (X.set t (fred p (r.getD t 0)) = tab W (fun i => if i < t + 1 then fred p (r.getD i 0) else 0)) := Lib.hid (by
            rw [hX]
            refine tab_upd fun s _ => ?_
            by_cases e : s = t
            · subst e; rw [if_pos (by omega), if_pos rfl]
            · rw [if_neg e]
              by_cases h : s < t
              · rw [if_pos h, if_pos (by omega)]
              · rw [if_neg h, if_neg (by omega)])
          obtain ⟨x, hx0⟩ : ∃ x, x = r.getD t 0 := ⟨_, rfl⟩
          rw [← hx0] at cr2 E2
          obtain ⟨gj, hgj⟩ : ∃ q, q = rowG L5 j := ⟨_, rfl⟩
          rw [← hgj] at kh
          obtain ⟨cj, hcj⟩ : ∃ q, q = (L5.getD j (none, 0, 0)).2.2 := ⟨_, rfl⟩
          rw [← hcj] at kh
          have HGJ := Lib.hid hgj
          have HXL := Lib.hid hXl
          have HE1 := Lib.hid e1
          have HJR := Lib.hid hjR
          clear qr hX hXl e1 hjR hx0 hgj hcj
          go_wp2_with fail
          refine region_factsL [[], [], [(0, 33), (1, 34)], [(2, 35)], [], [], [], [(5, 38), (6, 39)], [(3, 36), (4, 37)]] [some 33, some 34, some 35, some 36, some 37, some 38, some 39, some 40, some 41] [false, false, true, false, false, true, true, false, true, true, false, false, false, false, false, false, false, false, false, false, false, false, false, false, false, false, false, false, false, false, false, false, false, false, false, false, false, false, false, false, false, false, false, false, false] (by kernel_rfl) (by kernel_rfl) (by kernel_rfl) ?_
          dsimp only [maskL]
          with_reducible apply FromM.eq
          · intro w' hx; (try dsimp only [List.nil_append, List.cons_append, DepsL, DepsL1, setO, setN, favs, opsOf]); go_wp2; exact OpPostE.some _ rfl rfl (Ext.refl _) rfl
          with_reducible apply FromM.eq
          · intro w' hx; (try dsimp only [List.nil_append, List.cons_append, DepsL, DepsL1, setO, setN, favs, opsOf]); go_wp2; exact OpPostE.some _ rfl rfl (Ext.refl _) rfl
          with_reducible apply FromM.eq
          · intro w' hx; (try dsimp only [List.nil_append, List.cons_append, DepsL, DepsL1, setO, setN, favs, opsOf]); go_wp2; exact OpPostE.some _ rfl rfl (Ext.refl _) rfl
          with_reducible apply FromM.eq
          · intro w' hx; have h0x := hx.cell h0; have khx := hx.cell kh; (try dsimp only [List.nil_append, List.cons_append, DepsL, DepsL1, setO, setN, favs, opsOf]); go_wp2; exact OpPostE.some _ rfl rfl (Ext.refl _) rfl
          with_reducible apply FromM.eq
          · intro w' hx; (try dsimp only [List.nil_append, List.cons_append, DepsL, DepsL1, setO, setN, favs, opsOf]); go_wp2; exact OpPostE.some _ rfl rfl (Ext.refl _) rfl
          with_reducible apply FromM.eq
          · intro w' hx; have h0x := hx.cell h0; have khx := hx.cell kh; (try dsimp only [List.nil_append, List.cons_append, DepsL, DepsL1, setO, setN, favs, opsOf]); go_wp2; exact OpPostE.some _ rfl rfl (Ext.refl _) rfl
          with_reducible apply FromM.eq
          · intro w' hx; (try dsimp only [List.nil_append, List.cons_append, DepsL, DepsL1, setO, setN, favs, opsOf]); go_wp2; exact OpPostE.some _ rfl rfl (Ext.refl _) rfl
          with_reducible apply FromM.eq
          · intro w' hx; (try dsimp only [List.nil_append, List.cons_append, DepsL, DepsL1, setO, setN, favs, opsOf]); refine op_call 46 [.tmp 38, .tmp 39] _ _ _ rfl rfl rfl rfl rfl rfl (fun _ _ => Try.call46 _ _) (Reduce_c _ _ _) (fun e w2 h_ => ?_); obtain ⟨rfl, hb2⟩ := h_; exact ⟨_, rfl, hb2, rfl⟩
          with_reducible apply FromM.eq
          · intro w' hx; (try dsimp only [List.nil_append, List.cons_append, DepsL, DepsL1, setO, setN, favs, opsOf]); go_wp2; exact OpPostE.some _ rfl rfl (Ext.refl _) rfl
          with_reducible refine FromM.fin ?_
          intro w' hx
          (try dsimp only [List.nil_append, List.cons_append, EndL, DepsL1, setO, setN])
          have M6 := HMT2.out.ext hx
          have f6 := (M6.row j HJR.out).arr.frozen t
          have k6 := M6.at (i := j) (j := t) HJR.out (by rw [HE1.out, HXL.out]; exact hlt2)
          have S6 := M6.set (i := j) HJR.out t (fred p x) (by rw [HE1.out, HXL.out]; exact hlt2)
          rw [HE1.out, E2.out] at S6
          have e2 := snoc_set R X (tab W (fun i => if i < t + 1 then fred p (r.getD i 0) else 0))
          rw [HRL.out] at e2
          rw [e2, ← HGJ.out] at S6
          rw [← HGJ.out] at f6 k6
          have HS6 := Lib.hid S6
          have HGJN : Hid (w2.heap.size ≤ gj) := Lib.hid (by rw [HGJ.out]; exact (M6.row j HJR.out).new)
          have HE6 := Lib.hid ((HE2.out.trans hx).setNew (p := ⟨gj, t, none⟩) HGJN.out (.int .u64 (fred p x : Int)))
          clear M6 S6 e2 hx h0 kh cr2
          go_wp2_with fail
          go_roundw
          case rel => exact ⟨t + 1, by go_num, by omega, HS6.out, HE6.out⟩
          case measure => simp [intOf]; omega
        · obtain rfl : t = W := by omega
          have q := HMT2.out
          rw [tab_congr (G := fun i => fred p (r.getD i 0)) (fun i hi => by rw [if_pos hi]),
            show tab t (fun i => fred p (r.getD i 0)) = r.map (fred p) from by rw [← HLJ.out]; exact tab_map r (fred p), ← E1.out] at q
          have HM7 := Lib.hid q
          clear q
          clear h0
          go_wp2_with fail
          go_roundw
          case rel => exact ⟨j + 1, L5, by go_num, by omega, HL5.out, HM7.out, HC5.out, HE2.out⟩
          case measure => simp [intOf]; omega
    · obtain rfl : j = rows.length := by omega
      have HR : Hid (redM p (rows.take rows.length) = redM p rows) := Lib.hid (by rw [List.take_length])
      have HRn : Hid ((redM p rows).length = rows.length) := Lib.hid (by unfold redM; simp)
      have XX := HX.out.trans HE.out
      have MM : Hid (Mat wr w.heap.size gm L (redM p rows)) := Lib.hid (by rw [← HR.out]; exact HMT.out.rebase HX.out.size)
      clear h0
      go_wp2_with fail
      go_ret
      exact ⟨gm, L, by rw [HRn.out]; rfl, by rw [HRn.out]; exact HLL.out, MM.out, by rw [HRn.out]; exact HCP.out, XX⟩
end Go.Proofs.Ytcnbinjoeilfgaa
