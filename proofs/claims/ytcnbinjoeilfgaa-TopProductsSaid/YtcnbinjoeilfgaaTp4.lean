/- Walk of TopProducts. -/
import Derived.Test.YtcnbinjoeilfgaaTp3
namespace Go.Proofs.Ytcnbinjoeilfgaa
open Go.RowKit
theorem rdR_mat {w : World} {base gm n : Nat} {L : List SlC} {rows : List (List Nat)} (h : Mat w base gm L rows) (hl : L.length = n) (hr : rows.length = n) : RdR w (some ⟨gm, 0, none⟩) rows := h.rdR (by omega)
/-- Row i of the matrix of shifts, the first t places. -/
def shK (a : List Nat) (nb i t : Nat) : List Nat := tab nb (fun k => if k < t ∧ k ≤ i ∧ i - k < a.length then a.getD (i - k) 0 else 0)
theorem shK_zero (a : List Nat) (nb i : Nat) : shK a nb i 0 = List.replicate nb 0 := by
  unfold shK tab
  apply List.ext_getElem
  · simp
  · intro k h1 h2; simp
theorem shK_full (a : List Nat) (nb i : Nat) : shK a nb i nb = shiftR a nb i := by
  unfold shK shiftR
  exact tab_congr fun k hk => by
    by_cases h : k ≤ i ∧ i - k < a.length
    · rw [if_pos ⟨hk, h⟩, if_pos h]
    · rw [if_neg (fun q => h q.2), if_neg h]
theorem shK_len (a : List Nat) (nb i t : Nat) : (shK a nb i t).length = nb := tab_len _ _
theorem shK_do {a : List Nat} {nb i t : Nat} (h1 : t ≤ i) (h2 : i - t < a.length) : (shK a nb i t).set t (a.getD (i - t) 0) = shK a nb i (t + 1) := by
  unfold shK
  refine tab_upd fun k _ => ?_
  by_cases e : k = t
  · subst e; rw [if_pos ⟨by omega, h1, h2⟩, if_pos rfl]
  · rw [if_neg e]
    by_cases h : k < t ∧ k ≤ i ∧ i - k < a.length
    · rw [if_pos h, if_pos ⟨by omega, h.2⟩]
    · rw [if_neg h, if_neg (fun q => h ⟨by omega, q.2⟩)]
theorem shK_skip {a : List Nat} {nb i t : Nat} (h : ¬ (t ≤ i ∧ i - t < a.length)) : shK a nb i t = shK a nb i (t + 1) := by
  unfold shK
  exact tab_congr fun k _ => by
    by_cases e : k = t
    · subst e; rw [if_neg (fun q => absurd q.1 (by omega)), if_neg (fun q => h q.2)]
    · by_cases h2 : k < t ∧ k ≤ i ∧ i - k < a.length
      · rw [if_pos h2, if_pos ⟨by omega, h2.2⟩]
      · rw [if_neg h2, if_neg (fun q => h2 ⟨by omega, q.2⟩)]
theorem shiftM_take {a b : List Nat} {j : Nat} (h : j < a.length + b.length - 1) : (shiftM a b).take (j + 1) = (shiftM a b).take j ++ [shiftR a b.length j] := by
  have hl : j < (shiftM a b).length := by rw [shiftM_len]; exact h
  have := shiftM_get h
  rw [List.getD_eq_getElem?_getD, List.getElem?_eq_getElem hl, Option.getD_some] at this
  rw [List.take_add_one, List.getElem?_eq_getElem hl, this]; rfl
def TmoRel (a b : List Nat) (N gm : Nat) (w1 : World) (s : Value) (wr : World) : Prop :=
  ∃ (j : Nat) (L : List SlC), s = .int .i64 j ∧ j ≤ N ∧ L.length = N ∧ Mat wr w1.heap.size gm L ((shiftM a b).take j) ∧ Ext w1 wr
def TmiRel (a : List Nat) (nb i gm : Nat) (R : List (List Nat)) (L : List SlC) (w1 : World) (s : Value) (wr : World) : Prop :=
  ∃ t : Nat, s = .int .i64 t ∧ t ≤ nb ∧ Mat wr w1.heap.size gm L (R ++ [shK a nb i t]) ∧ Ext w1 wr
theorem MV_shift {a b : List Nat} {nb N : Nat} (hb : b.length = nb) (hN : N = a.length + b.length - 1) (h0 : 0 < N) (h64 : N ≤ 64) (hb64 : nb ≤ 64) : MV (shiftM a b) nb :=
  ⟨by rw [shiftM_len]; omega, by rw [shiftM_len]; omega, hb64, fun i hi => by rw [shiftM_len] at hi; rw [shiftM_get hi]; unfold shiftR; rw [tab_len]; exact hb⟩
set_option maxRecDepth 100000 in
set_option maxHeartbeats 16000000 in
theorem TopProducts_w (n : Nat) (l m : List Nat) (a b : Option Addr) (c d : Nat) (w : World) (hn : n < 256) (ha : Rd w a l) (hb : Rd w b m) (hl : l.length ≤ 9223372036854775807) (hm : m.length ≤ 9223372036854775807) :
    Calls Try.prog 6 #[.int .u8 n, .slice a l.length c, .slice b m.length d] w fun e w' => e = .returned (.bool true) ∧ Ext w w' := by
  have HA := Lib.hid ha
  have HB := Lib.hid hb
  have PRC := Lib.hid (Prime_c n hn)
  have V := Lib.hid (prm_vld n)
  obtain ⟨p, hp⟩ : ∃ p, p = prm n := ⟨_, rfl⟩
  rw [← hp] at V PRC
  obtain ⟨x, hxl⟩ : ∃ x, x = l.length := ⟨_, rfl⟩
  have HXL := Lib.hid hxl
  obtain ⟨y, hyl⟩ : ∃ y, y = m.length := ⟨_, rfl⟩
  have HYL := Lib.hid hyl
  rw [← hxl] at hl
  rw [← hyl] at hm
  rw [← hxl, ← hyl]
  clear ha hb hp hn hxl hyl
  go_enter Try.func6, Try.ntmps6
  go_wp2_with fail
  refine (PRC.out _).mono ?_; rintro e w1 ⟨rfl, X⟩
  have HX := Lib.hid X
  clear X
  go_wp2_with fail
  refine (awake05_c _).mono ?_; rintro e w2 ⟨rfl, x2⟩
  have hc : w2.cell? ⟨w1.heap.size, 0, none⟩ = some (.int .u64 p) := x2.cell (by simp)
  have X : Ext w w2 := HX.out.trans (Ext.trans (by
    first
      | exact (Ext.refl _).alloc _
      | exact ((Ext.refl _).alloc _).setNew (Nat.le_refl _) _) x2)
  clear x2
  by_cases hx12 : x ≤ 12
  case neg =>
    have t1 : decide ((12 : Int) < (x : Int)) = true := decide_eq_true (by omega)
    go_wp2_with fail
    refine (awake05_c _).mono ?_; rintro e w3 ⟨rfl, x3⟩
    replace X := X.trans x3
    clear x3 hc
    go_wp2_with fail
    go_ret
    exact ⟨rfl, X⟩
  have t1 : decide ((12 : Int) < (x : Int)) = false := decide_eq_false (by omega)
  by_cases hy12 : y ≤ 12
  case neg =>
    have t2 : decide ((12 : Int) < (y : Int)) = true := decide_eq_true (by omega)
    go_wp2_with fail
    refine (awake05_c _).mono ?_; rintro e w3 ⟨rfl, x3⟩
    replace X := X.trans x3
    clear x3 hc
    go_wp2_with fail
    go_ret
    exact ⟨rfl, X⟩
  have t2 : decide ((12 : Int) < (y : Int)) = false := decide_eq_false (by omega)
  by_cases hx0 : 0 < x
  case neg =>
    have t3 : ((x : Int) == 0) = true := beq_iff_eq.2 (by omega)
    go_wp2_with fail
    refine (awake05_c _).mono ?_; rintro e w3 ⟨rfl, x3⟩
    replace X := X.trans x3
    clear x3 hc
    go_wp2_with fail
    go_ret
    exact ⟨rfl, X⟩
  have t3 : ((x : Int) == 0) = false := beq_eq_false_iff_ne.2 (by omega)
  by_cases hy0 : 0 < y
  case neg =>
    have t4 : ((y : Int) == 0) = true := beq_iff_eq.2 (by omega)
    go_wp2_with fail
    refine (awake05_c _).mono ?_; rintro e w3 ⟨rfl, x3⟩
    replace X := X.trans x3
    clear x3 hc
    go_wp2_with fail
    go_ret
    exact ⟨rfl, X⟩
  have t4 : ((y : Int) == 0) = false := beq_eq_false_iff_ne.2 (by omega)
  obtain ⟨N, hN⟩ : ∃ N, N = x + y - 1 := ⟨_, rfl⟩
  have hNi : ((x : Int) + (y : Int) - 1) = (N : Int) := by omega
  have hN23 : N ≤ 23 := by omega
  have hN0 : 0 < N := by omega
  have hmv := make_v N (by omega)
  have hmk := make_c y y (Nat.le_refl _) (by omega)
  have HMV := Lib.hid hmv
  have HMK := Lib.hid hmk
  have HNN : Hid (N = l.length + m.length - 1) := Lib.hid (by rw [← HXL.out, ← HYL.out]; exact hN)
  haveI := Q.nz_vld V.out
  have hl0 : 0 < l.length := by have := HXL.out; omega
  have hm0 : 0 < m.length := by have := HYL.out; omega
  have happ := Q.apply_shift V.out l m hl0 hm0
  have htrm := Q.trim_tMul V.out l m hl0 hm0
  obtain ⟨B, hB⟩ : ∃ B, B = tMul p l m := ⟨_, rfl⟩
  rw [← hB] at happ htrm
  have hBl : B.length = N := by rw [hB, hN, HXL.out, HYL.out]; exact tab_len _ _
  have MC := Lib.hid (fun w' h1 h2 => by
    have q := Multiply_c p l m a b c d w' h1 h2 (by have := HXL.out; have := HYL.out; omega)
    rw [← HXL.out, ← HYL.out] at q; exact q)
  have htm : (tM p l m = ([], 3)) ∨ (tM p l m = (B, 0)) := by
    unfold tM
    rw [if_neg (by rw [V.out]; decide), if_neg (by omega), ← hB]
    split
    · exact .inr rfl
    · exact .inl rfl
  have AC := Lib.hid (fun w' (a8 : Option Addr) (h1 : RdR w' a8 (shiftM l m)) (h2 : Rd w' b m) => by
    have q := Apply_c p (shiftM l m) m V.out (by rw [← HYL.out]; exact MV_shift (HYL.out.symm) HNN.out hN0 (by omega) (by omega)) a8 b N d w' h1 h2
    rw [happ, shiftM_len, ← HNN.out, ← HYL.out] at q; exact q)
  obtain ⟨T, hT⟩ : ∃ T, T = pmul p l m := ⟨_, rfl⟩
  rw [← hT] at htrm
  have HBL := Lib.hid hBl
  obtain ⟨q, hq⟩ : ∃ q, q = T.length := ⟨_, rfl⟩
  have HQ := Lib.hid hq
  have hq24 : q ≤ 24 := by rw [hq, ← htrm]; have := trimP_le p B; omega
  have TC := Lib.hid (fun w' (a9 : Option Addr) (c9 : Nat) (h1 : Rd w' a9 B) => by
    have q := Trim_c p B a9 c9 w' h1 (by omega)
    rw [htrm, hBl] at q; exact q)
  have PMC := Lib.hid (fun w' (h1 : Rd w' a l) (h2 : Rd w' b m) => by
    have q := MulP_c p l m a b c d w' h1 h2 (by have := HXL.out; omega) (by have := HYL.out; omega)
    rw [← hT, ← HXL.out, ← HYL.out] at q; exact q)
  have SBC := Lib.hid (fun w' (x y : Option Addr) (d f : Nat) (h1 : Rd w' x B) (h2 : Rd w' y B) => same1n B N x y d f w' hBl h1 h2 (by omega))
  have STC := Lib.hid (fun w' (x y : Option Addr) (d f : Nat) (h1 : Rd w' x T) (h2 : Rd w' y T) => same1n T q x y d f w' hq.symm h1 h2 (by omega))
  clear hN happ htrm hB hBl hT hq hl0 hm0 hmk
  have HTM := Lib.hid htm
  clear htm
  go_wp2_with fail
  have HX2 := Lib.hid X
  have HC := Lib.hid hc
  obtain ⟨gm, hgm⟩ : ∃ q, q = w2.heap.size := ⟨_, rfl⟩
  have HGM := Lib.hid hgm
  rw [← hgm]
  clear hgm X hc hmv
  go_loopw [49] (TmoRel l m N gm w2) (fun i _ => N - (intOf i).toNat)
  case atStart =>
    refine ⟨0, List.replicate N (none, 0, 0), rfl, Nat.zero_le _, by simp, ⟨Nat.zero_le _, ?_, by rw [HGM.out]; exact Nat.le_refl _, fun i hi => absurd hi (by simp), fun i j hi => absurd hi (by simp)⟩, (Ext.refl _).alloc _⟩
    rw [HGM.out]; exact heap_alloc_new w2 _
  case round =>
    obtain ⟨j, L, rfl, hj, hL, mt, hext⟩ := hrel
    have HE := Lib.hid hext
    have HMT := Lib.hid mt
    have HLL := Lib.hid hL
    clear hext mt hL
    by_cases hlt : j < N
    · have E1 := Lib.hid (shiftM_take (a := l) (b := m) (j := j) (by rw [← HNN.out]; exact hlt))
      have hRl : ((shiftM l m).take j).length = j := by simp [shiftM_len, ← HNN.out]; omega
      obtain ⟨R, hR⟩ : ∃ R, R = (shiftM l m).take j := ⟨_, rfl⟩
      rw [← hR] at HMT E1 hRl
      have al := (Ext.refl wr).alloc (.cells (rowA (List.replicate y 0)) 22)
      have M1 := HMT.out.ext al
      have fz := M1.heads.frozen j
      have kz := M1.heads.at (i := j) (by rw [HLL.out]; exact hlt)
      have hgml : gm < wr.heap.size := HMT.out.heads.lt
      have hsz := HE.out.size
      have S1 := M1.snoc (g := wr.heap.size) (c := y) (r := List.replicate y 0) (by rw [hRl, HLL.out]; exact hlt) (by
        have := Arr.ofBlk (Blk.new wr (rowA (List.replicate y 0))) (by simp; omega)
        rw [List.length_replicate] at this; exact this) hsz (by omega) (fun i hi q => by have := (HMT.out.row i hi).arr.lt; omega)
      rw [hRl, List.length_replicate] at S1
      have HS1 := Lib.hid S1
      have HRL := Lib.hid hRl
      have HGL : Hid (w2.heap.size ≤ gm) := Lib.hid (by rw [HGM.out]; exact Nat.le_refl _)
      have HEA := Lib.hid ((HE.out.trans al).setNew (p := ⟨gm, j, none⟩) HGL.out (.slice (some ⟨wr.heap.size, 0, none⟩) y y))
      have hmk := HMK.out
      clear hR M1 S1 hsz hRl al
      go_wp2_with fail
      have hcm := World.setCell_alloc_past (w := wr) (.cells (rowA (List.replicate y 0)) 22) gm j (.slice (some ⟨wr.heap.size, 0, none⟩) y y) hgml
      rw [hcm] at HS1 HEA
      obtain ⟨w5, hw5⟩ : ∃ q, q = (wr.setCell ⟨gm, j, none⟩ (.slice (some ⟨wr.heap.size, 0, none⟩) y y)).alloc (.cells (rowA (List.replicate y 0)) 22) := ⟨_, rfl⟩
      rw [← hw5] at HS1 HEA
      rw [← hw5]
      obtain ⟨L5, hL5⟩ : ∃ q, q = L.set j (some (⟨wr.heap.size, 0, none⟩ : Addr), y, y) := ⟨_, rfl⟩
      rw [← hL5] at HS1
      have HL5 : Hid (L5.length = N) := Lib.hid (by rw [hL5, List.length_set]; exact HLL.out)
      clear hcm hw5 hL5 fz kz hgml hmk
      go_loopw [60] (TmiRel l y j gm R L5 w2) (fun i _ => y - (intOf i).toNat)
      case atStart => exact ⟨0, rfl, Nat.zero_le _, by rw [shK_zero]; exact HS1.out, HEA.out⟩
      case round =>
        obtain ⟨t, rfl, ht, mt, hext⟩ := hrel
        have HMT2 := Lib.hid mt
        have HE2 := Lib.hid hext
        clear mt hext
        by_cases hlt2 : t < y
        · by_cases htj : t ≤ j
          · obtain ⟨z, hz⟩ : ∃ z, z = j - t := ⟨_, rfl⟩
            have hzi : ((j : Int) - (t : Int)) = (z : Int) := by omega
            by_cases hzx : z < x
            · have ED := Lib.hid (shK_do (a := l) (nb := y) htj (by rw [← hz, ← HXL.out]; exact hzx))
              rw [← hz] at ED
              obtain ⟨gl, ol, rfl, ql⟩ := HA.out.at (by rw [← HXL.out]; omega)
              have cl := (HX2.out.trans HE2.out).cell (ql z (by rw [← HXL.out]; exact hzx))
              obtain ⟨u, hu⟩ : ∃ u, u = l.getD z 0 := ⟨_, rfl⟩
              rw [← hu] at cl ED
              have e1 := snoc_getD R (shK l y j t) []
              rw [HRL.out] at e1
              have hjR : j < (R ++ [shK l y j t]).length := by rw [List.length_append, HRL.out]; simp
              have kh := HMT2.out.head hjR
              rw [e1, shK_len] at kh
              have f6 := (HMT2.out.row j hjR).arr.frozen t
              have k6 := HMT2.out.at (i := j) (j := t) hjR (by rw [e1, shK_len]; exact hlt2)
              have S6 := HMT2.out.set (i := j) hjR t u (by rw [e1, shK_len]; exact hlt2)
              have hnw := (HMT2.out.row j hjR).new
              rw [e1, ED.out] at S6
              have e2 := snoc_set R (shK l y j t) (shK l y j (t + 1))
              rw [HRL.out] at e2
              rw [e2] at S6
              obtain ⟨gj, hgj⟩ : ∃ q, q = rowG L5 j := ⟨_, rfl⟩
              rw [← hgj] at kh f6 k6 S6 hnw
              obtain ⟨cj, hcj⟩ : ∃ q, q = (L5.getD j (none, 0, 0)).2.2 := ⟨_, rfl⟩
              rw [← hcj] at kh
              have HS6 := Lib.hid S6
              have HE6 := Lib.hid ((HE2.out.setNew (p := ⟨gj, t, none⟩) hnw (.int .u64 (u : Int))).drew)
              have HD6 := Lib.hid (HS6.out.ext (Ext.refl _).drew)
              clear ql hu e1 hjR e2 S6 hnw hgj hcj hz
              go_wp2_with fail
              go_region
              go_wp2_with fail
              go_roundw
              case rel => exact ⟨t + 1, by go_num, by omega, HD6.out, HE6.out⟩
              case measure => simp [intOf]; omega
            · have ED := Lib.hid (shK_skip (a := l) (nb := y) (i := j) (t := t) (fun q => hzx (by rw [hz, HXL.out]; exact q.2)))
              clear hz
              go_wp2_with fail
              go_roundw
              case rel => exact ⟨t + 1, by go_num, by omega, by rw [← ED.out]; exact HMT2.out, HE2.out⟩
              case measure => simp [intOf]; omega
          · have ED := Lib.hid (shK_skip (a := l) (nb := y) (i := j) (t := t) (fun q => htj q.1))
            go_wp2_with fail
            go_roundw
            case rel => exact ⟨t + 1, by go_num, by omega, by rw [← ED.out]; exact HMT2.out, HE2.out⟩
            case measure => simp [intOf]; omega
        · obtain rfl : t = y := by omega
          have qm := HMT2.out
          have HYM := HYL.out
          rw [shK_full, HYM, ← E1.out] at qm
          have HM7 := Lib.hid qm
          clear qm HYM
          go_wp2_with fail
          go_roundw
          case rel => exact ⟨j + 1, L5, by go_num, by omega, HL5.out, HM7.out, HE2.out⟩
          case measure => simp [intOf]; omega
    · obtain rfl : j = N := by omega
      have RM : Hid (RdR wr (some ⟨gm, 0, none⟩) (shiftM l m)) := Lib.hid (by
        have q := HMT.out
        rw [List.take_of_length_le (by rw [shiftM_len, ← HNN.out]; exact Nat.le_refl _)] at q
        exact rdR_mat q HLL.out (by rw [shiftM_len, ← HNN.out]))
      replace hc := HE.out.cell HC.out
      have X := HX2.out.trans HE.out
      have t5 : ((3 : Int) == 3) = true := rfl
      clear HMT
      rcases HTM.out with htm | htm
      · have MC := Lib.hid (fun w' h1 h2 => by have q := MC.out w' h1 h2; rw [htm] at q; exact q)
        clear htm
        go_wp2_with fail
        refine (MC.out _ (HA.out.ext X) (HB.out.ext X)).mono ?_; rintro e w4 ⟨v4, rfl, o4, x4⟩
        obtain ⟨a4, c4, rfl, _, r4⟩ := o4.formN 0 rfl
        replace hc := x4.cell hc
        replace X := X.trans x4
        have RM := Lib.hid (RM.out.ext x4)
        clear o4 x4 r4
        go_wp2_with fail
        refine (AC.out _ _ RM.out (HB.out.ext X)).mono ?_; rintro e w5 ⟨v5, rfl, o5, x5⟩
        obtain ⟨a5, c5, rfl, _, r5⟩ := o5.formN j HBL.out
        replace hc := x5.cell hc
        replace X := X.trans x5
        have R5 := Lib.hid r5
        clear o5 x5 r5
        go_wp2_with fail
        refine region_factsL [[], [], [(0, 100), (1, 101)], [], [], [], [(3, 103), (4, 104), (5, 105)], [(2, 102), (6, 106)], [(7, 107)]] [some 100, some 101, some 102, some 103, some 104, some 105, some 106, some 107, some 108] [false, true, true, false, false, false, false, true, false, false, false, false, false, true, false, false, false, false, false, false, false, false, false, false, false, false, false, false, false, false, false, false, false, false, false, false, false, false, false, false, false, false, false, false, false, false, false, false, false, false, false, false, false, false, false, false, false, false, false, false, false, false, false, false, false, false, false, false, false, false, false, false, false, false, false, false, false, false, false, false, false, false, false, false, false, false, false, false, false, false, false, false, false, false, false, false, false, false, false, false, false, false, false, false, false, false, false, false, false, false, false, false, false, false, false, false, false, false, false, false, false, false, false, false, false] (by kernel_rfl) (by kernel_rfl) (by kernel_rfl) ?_
        dsimp only [maskL]
        with_reducible apply FromM.eq
        · intro w' hx; have hcx := hx.cell hc; (try dsimp only [List.nil_append, List.cons_append, DepsL, DepsL1, setO, setN, favs, opsOf]); go_wp2; exact OpPostE.some _ rfl rfl (Ext.refl _) rfl
        with_reducible apply FromM.eq
        · intro w' hx; (try dsimp only [List.nil_append, List.cons_append, DepsL, DepsL1, setO, setN, favs, opsOf]); go_wp2; exact OpPostE.some _ rfl rfl (Ext.refl _) rfl
        refine FromM.step (OwnF w.heap.size T) (OwnF.mono) ?_ ?_
        · intro w' hx; (try dsimp only [List.nil_append, List.cons_append, DepsL, DepsL1, setO, setN, favs, opsOf]); skip;
          refine op_call 27 [.tmp 100, .tmp 101] _ _ _ rfl rfl rfl rfl rfl rfl (fun _ _ => Try.call27 _ _) (TC.out _ _ _ (R5.out.ext hx)) (fun e w2 h_ => ?_); obtain ⟨v, rfl, ho, hb2⟩ := h_; exact ⟨_, rfl, hb2, (ho.base (X.trans hx).size)⟩
        with_reducible apply FromM.eq
        · intro w' hx; have hcx := hx.cell hc; (try dsimp only [List.nil_append, List.cons_append, DepsL, DepsL1, setO, setN, favs, opsOf]); go_wp2; exact OpPostE.some _ rfl rfl (Ext.refl _) rfl
        with_reducible apply FromM.eq
        · intro w' hx; (try dsimp only [List.nil_append, List.cons_append, DepsL, DepsL1, setO, setN, favs, opsOf]); go_wp2; exact OpPostE.some _ rfl rfl (Ext.refl _) rfl
        with_reducible apply FromM.eq
        · intro w' hx; (try dsimp only [List.nil_append, List.cons_append, DepsL, DepsL1, setO, setN, favs, opsOf]); go_wp2; exact OpPostE.some _ rfl rfl (Ext.refl _) rfl
        refine FromM.step (OwnF w.heap.size T) (OwnF.mono) ?_ ?_
        · intro w' hx; (try dsimp only [List.nil_append, List.cons_append, DepsL, DepsL1, setO, setN, favs, opsOf]); skip;
          refine op_call 28 [.tmp 103, .tmp 104, .tmp 105] _ _ _ rfl rfl rfl rfl rfl rfl (fun _ _ => Try.call28 _ _) (PMC.out _ (HA.out.ext (X.trans hx)) (HB.out.ext (X.trans hx))) (fun e w2 h_ => ?_); obtain ⟨v, rfl, ho, hb2⟩ := h_; exact ⟨_, rfl, hb2, (ho.base (X.trans hx).size)⟩
        -- 7: t107
        with_reducible apply FromM.eq
        · intro w' hx; (try dsimp only [List.nil_append, List.cons_append, DepsL, DepsL1, setO, setN, favs, opsOf]); rintro v2 k2; rintro v6 k6; obtain ⟨a2, c2, rfl, _, r2⟩ := Own.formN k2 q HQ.out.symm; obtain ⟨a6, c6, rfl, _, r6⟩ := Own.formN k6 q HQ.out.symm; go_wp2_with (go_at_call 26; refine (STC.out _ _ _ _ _ r2 r6).mono ?_; rintro e w2 ⟨rfl, hb2⟩); exact OpPostE.some _ rfl rfl hb2 rfl
        with_reducible apply FromM.eq
        · intro w' hx; (try dsimp only [List.nil_append, List.cons_append, DepsL, DepsL1, setO, setN, favs, opsOf]); go_wp2; exact OpPostE.some _ rfl rfl (Ext.refl _) rfl
        with_reducible refine FromM.fin ?_
        intro w' hx
        (try dsimp only [List.nil_append, List.cons_append, EndL, DepsL1, setO, setN]); rintro v2 k2 v6 k6
        replace X := X.trans hx
        clear k2 k6 hx hc
        go_wp2_with fail
        go_ret
        exact ⟨rfl, X⟩
      · have MC := Lib.hid (fun w' h1 h2 => by have q := MC.out w' h1 h2; rw [htm] at q; exact q)
        clear htm
        go_wp2_with fail
        refine (MC.out _ (HA.out.ext X) (HB.out.ext X)).mono ?_; rintro e w4 ⟨v4, rfl, o4, x4⟩
        obtain ⟨a4, c4, rfl, _, r4⟩ := o4.formN j HBL.out
        replace hc := x4.cell hc
        replace X := X.trans x4
        have RM := Lib.hid (RM.out.ext x4)
        have R4 := Lib.hid r4
        clear o4 x4 r4
        go_wp2_with fail
        refine (AC.out _ _ RM.out (HB.out.ext X)).mono ?_; rintro e w5 ⟨v5, rfl, o5, x5⟩
        obtain ⟨a5, c5, rfl, _, r5⟩ := o5.formN j HBL.out
        replace hc := x5.cell hc
        replace X := X.trans x5
        have R4 := Lib.hid (R4.out.ext x5)
        have R5 := Lib.hid r5
        clear o5 x5 r5
        go_wp2_with fail
        refine region_factsL [[], [], [(0, 100), (1, 101)], [], [], [], [(3, 103), (4, 104), (5, 105)], [(2, 102), (6, 106)], [(7, 107)]] [some 100, some 101, some 102, some 103, some 104, some 105, some 106, some 107, some 108] [false, true, true, false, false, false, false, true, false, false, false, false, false, true, false, false, false, false, false, false, false, false, false, false, false, false, false, false, false, false, false, false, false, false, false, false, false, false, false, false, false, false, false, false, false, false, false, false, false, false, false, false, false, false, false, false, false, false, false, false, false, false, false, false, false, false, false, false, false, false, false, false, false, false, false, false, false, false, false, false, false, false, false, false, false, false, false, false, false, false, false, false, false, false, false, false, false, false, false, false, false, false, false, false, false, false, false, false, false, false, false, false, false, false, false, false, false, false, false, false, false, false, false, false, false] (by kernel_rfl) (by kernel_rfl) (by kernel_rfl) ?_
        dsimp only [maskL]
        with_reducible apply FromM.eq
        · intro w' hx; have hcx := hx.cell hc; (try dsimp only [List.nil_append, List.cons_append, DepsL, DepsL1, setO, setN, favs, opsOf]); go_wp2; exact OpPostE.some _ rfl rfl (Ext.refl _) rfl
        with_reducible apply FromM.eq
        · intro w' hx; (try dsimp only [List.nil_append, List.cons_append, DepsL, DepsL1, setO, setN, favs, opsOf]); go_wp2; exact OpPostE.some _ rfl rfl (Ext.refl _) rfl
        refine FromM.step (OwnF w.heap.size T) (OwnF.mono) ?_ ?_
        · intro w' hx; (try dsimp only [List.nil_append, List.cons_append, DepsL, DepsL1, setO, setN, favs, opsOf]); skip;
          refine op_call 27 [.tmp 100, .tmp 101] _ _ _ rfl rfl rfl rfl rfl rfl (fun _ _ => Try.call27 _ _) (TC.out _ _ _ (R5.out.ext hx)) (fun e w2 h_ => ?_); obtain ⟨v, rfl, ho, hb2⟩ := h_; exact ⟨_, rfl, hb2, (ho.base (X.trans hx).size)⟩
        with_reducible apply FromM.eq
        · intro w' hx; have hcx := hx.cell hc; (try dsimp only [List.nil_append, List.cons_append, DepsL, DepsL1, setO, setN, favs, opsOf]); go_wp2; exact OpPostE.some _ rfl rfl (Ext.refl _) rfl
        with_reducible apply FromM.eq
        · intro w' hx; (try dsimp only [List.nil_append, List.cons_append, DepsL, DepsL1, setO, setN, favs, opsOf]); go_wp2; exact OpPostE.some _ rfl rfl (Ext.refl _) rfl
        with_reducible apply FromM.eq
        · intro w' hx; (try dsimp only [List.nil_append, List.cons_append, DepsL, DepsL1, setO, setN, favs, opsOf]); go_wp2; exact OpPostE.some _ rfl rfl (Ext.refl _) rfl
        refine FromM.step (OwnF w.heap.size T) (OwnF.mono) ?_ ?_
        · intro w' hx; (try dsimp only [List.nil_append, List.cons_append, DepsL, DepsL1, setO, setN, favs, opsOf]); skip;
          refine op_call 28 [.tmp 103, .tmp 104, .tmp 105] _ _ _ rfl rfl rfl rfl rfl rfl (fun _ _ => Try.call28 _ _) (PMC.out _ (HA.out.ext (X.trans hx)) (HB.out.ext (X.trans hx))) (fun e w2 h_ => ?_); obtain ⟨v, rfl, ho, hb2⟩ := h_; exact ⟨_, rfl, hb2, (ho.base (X.trans hx).size)⟩
        -- 7: t107
        with_reducible apply FromM.eq
        · intro w' hx; (try dsimp only [List.nil_append, List.cons_append, DepsL, DepsL1, setO, setN, favs, opsOf]); rintro v2 k2; rintro v6 k6; obtain ⟨a2, c2, rfl, _, r2⟩ := Own.formN k2 q HQ.out.symm; obtain ⟨a6, c6, rfl, _, r6⟩ := Own.formN k6 q HQ.out.symm; go_wp2_with (go_at_call 26; refine (STC.out _ _ _ _ _ r2 r6).mono ?_; rintro e w2 ⟨rfl, hb2⟩); exact OpPostE.some _ rfl rfl hb2 rfl
        with_reducible apply FromM.eq
        · intro w' hx; (try dsimp only [List.nil_append, List.cons_append, DepsL, DepsL1, setO, setN, favs, opsOf]); go_wp2; exact OpPostE.some _ rfl rfl (Ext.refl _) rfl
        with_reducible refine FromM.fin ?_
        intro w' hx
        (try dsimp only [List.nil_append, List.cons_append, EndL, DepsL1, setO, setN]); rintro v2 k2 v6 k6
        replace X := X.trans hx
        have R4 := Lib.hid (R4.out.ext hx)
        have R5 := Lib.hid (R5.out.ext hx)
        clear k2 k6 hx hc
        go_wp2_with fail
        refine (SBC.out _ _ _ _ _ R4.out R5.out).mono ?_; rintro e w9 ⟨rfl, x9⟩
        replace X := X.trans x9
        clear x9
        go_wp2_with fail
        go_ret
        exact ⟨rfl, X⟩
end Go.Proofs.Ytcnbinjoeilfgaa
