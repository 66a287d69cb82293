/- Contract: code.Fold. -/
import Derived.Test.YtgnngifnoaagjaaGD
namespace Go.Proofs.Ytgnngifnoaagjaa
open Go.RowKit

def fkQ (p : Nat) (rows : List (List Nat)) (cs : List Nat) (i j t : Nat) : Nat := if t < j then fk p rows cs (i + 1) t else fk p rows cs i t
theorem fkQ_step (p : Nat) (rows : List (List Nat)) (cs : List Nat) (i j M : Nat) :
    (tab M (fkQ p rows cs i j)).set j (fadd p (fk p rows cs i j) (fmul p ((rows.getD i []).getD j 0) (cs.getD i 0))) = tab M (fkQ p rows cs i (j + 1)) := by
  refine tab_upd fun t _ => ?_
  unfold fkQ
  by_cases e : t = j
  · subst e; rw [if_pos (by omega), if_pos rfl]; rfl
  · rw [if_neg e]
    by_cases h : t < j
    · rw [if_pos h, if_pos (by omega)]
    · rw [if_neg h, if_neg (by omega)]
def LRel (rows : List (List Nat)) (w1 : World) (s : Value) (wr : World) : Prop :=
  ∃ j : Nat, s = .int .i64 j ∧ j ≤ rows.length ∧ (∀ i, i < j → (rows.getD i []).length = (rows.getD 0 []).length) ∧ Ext w1 wr
def FoRel (p : Nat) (rows : List (List Nat)) (cs : List Nat) (M g : Nat) (w1 : World) (s : Value) (wr : World) : Prop :=
  ∃ i : Nat, s = .int .i64 i ∧ i ≤ rows.length ∧ Arr wr g (tab M (fk p rows cs i)) M ∧ Ext w1 wr
def FiRel (p : Nat) (rows : List (List Nat)) (cs : List Nat) (M g i : Nat) (w1 : World) (s : Value) (wr : World) : Prop :=
  ∃ j : Nat, s = .int .i64 j ∧ j ≤ M ∧ Arr wr g (tab M (fkQ p rows cs i j)) M ∧ Ext w1 wr

set_option maxRecDepth 100000 in
set_option maxHeartbeats 4000000 in
theorem Fold_c (p : Nat) (rows : List (List Nat)) (cs : List Nat) (a b : Option Addr) (c d : Nat) (w : World) (ha : RdR w a rows) (hb : Rd w b cs) (hR : rows.length ≤ 1000000) (hM : (rows.getD 0 []).length ≤ 1000000) :
    Calls Try.prog 32 #[.int .u64 p, .slice a rows.length c, .slice b cs.length d] w (SlPost w (cFold p rows cs)) := by
  have HA := Lib.hid ha
  have HB := Lib.hid hb
  clear ha hb
  have h0 : (w.alloc (.cells #[.int .u64 p] 65)).cell? ⟨w.heap.size, 0, none⟩ = some (.int .u64 p) := by simp
  cases hv : vld p
  case false =>
    have V := Lib.hid hv
    have E : Hid (cFold p rows cs = []) := Lib.hid (by unfold cFold; rw [if_neg (fun h => by rw [hv] at h; cases h.1)])
    clear hv
    go_enter Try.func32, Try.ntmps32
    go_wp2_with fail
    refine (Valid_c _ _).mono ?_; rintro e w1 ⟨rfl, x1⟩; rw [V.out]
    go_wp2_with fail
    go_ret
    exact ⟨_, rfl, by rw [E.out]; exact Own.nil _ _, x1.box⟩
  have V := Lib.hid hv
  by_cases hz : rows.length = 0
  case pos =>
    have E : Hid (cFold p rows cs = []) := Lib.hid (by unfold cFold; rw [if_neg (fun h => h.2.1 hz)])
    have t1 : ((rows.length : Int) == 0) = true := beq_iff_eq.2 (by omega)
    clear hv hz
    go_enter Try.func32, Try.ntmps32
    go_wp2_with fail
    refine (Valid_c _ _).mono ?_; rintro e w1 ⟨rfl, x1⟩; rw [V.out]
    go_wp2_with fail
    go_ret
    exact ⟨_, rfl, by rw [E.out]; exact Own.nil _ _, x1.box⟩
  have t1 : ((rows.length : Int) == 0) = false := beq_eq_false_iff_ne.2 (by omega)
  by_cases he : rows.length = cs.length
  case neg =>
    have E : Hid (cFold p rows cs = []) := Lib.hid (by unfold cFold; rw [if_neg (fun h => he h.2.2.1)])
    have t2 : ((rows.length : Int) != (cs.length : Int)) = true := bne_iff_ne.2 (by omega)
    clear hv hz he
    go_enter Try.func32, Try.ntmps32
    go_wp2_with fail
    refine (Valid_c _ _).mono ?_; rintro e w1 ⟨rfl, x1⟩; rw [V.out]
    go_wp2_with fail
    go_ret
    exact ⟨_, rfl, by rw [E.out]; exact Own.nil _ _, x1.box⟩
  have t2 : ((rows.length : Int) != (cs.length : Int)) = false := by rw [he]; simp
  have HE := Lib.hid he
  have HV := Lib.hid hv
  have hz1 : 0 < rows.length := by omega
  obtain ⟨gr, ofr, rfl, hrow⟩ := HA.out.at hz1
  have HROW := Lib.hid hrow
  clear he hv hrow hz
  obtain ⟨M, hMM⟩ : ∃ M, M = (rows.getD 0 []).length := ⟨_, rfl⟩
  have HMM := Lib.hid hMM
  rw [← hMM] at hM
  clear hMM
  obtain ⟨a0, c0, k0, _⟩ := HROW.out 0 hz1
  rw [← HMM.out, Nat.add_zero] at k0
  have hmk := make_c M M (Nat.le_refl _) (by omega)
  go_enter Try.func32, Try.ntmps32
  go_wp2_with fail
  refine (Valid_c _ _).mono ?_; rintro e w1 ⟨rfl, x1⟩; rw [V.out]
  replace h0 := x1.cell h0
  have X := x1.box
  clear x1
  go_wp2_with fail
  go_loopw [34] (LRel rows w1) (fun i _ => rows.length - (intOf i).toNat)
  case atStart => exact ⟨0, rfl, Nat.zero_le _, fun i hi => absurd hi (by omega), Ext.refl _⟩
  case round =>
    obtain ⟨j, rfl, hj, hall, hext⟩ := hrel
    have HALL := Lib.hid hall
    have X2 := X.trans hext
    have k0x := X2.cell k0
    replace h0 := hext.cell h0
    clear hall
    by_cases hlt : j < rows.length
    · obtain ⟨aj, cj, kj, _⟩ := HROW.out j hlt
      replace kj := X2.cell kj
      obtain ⟨mj, hmj⟩ : ∃ mj, mj = (rows.getD j []).length := ⟨_, rfl⟩
      rw [← hmj] at kj
      have HMJ := Lib.hid hmj
      clear hmj
      by_cases hq : mj = M
      · have t3 : ((mj : Int) != (M : Int)) = false := by rw [hq]; simp
        have HQ := Lib.hid hq
        have HEX := Lib.hid hext
        clear hq hext
        go_wp2_with fail
        go_roundw
        case rel =>
          refine ⟨j + 1, by go_num, by omega, fun i hi => ?_, HEX.out⟩
          by_cases e : i = j
          · subst e; rw [← HMJ.out, ← HMM.out]; exact HQ.out
          · exact HALL.out i (by omega)
        case measure => simp [intOf]; omega
      · have t3 : ((mj : Int) != (M : Int)) = true := bne_iff_ne.2 (by omega)
        have E : Hid (cFold p rows cs = []) := Lib.hid (by
          unfold cFold
          rw [if_neg (fun h => hq (by have := of_decide_eq_true h.2.2.2 j hlt; rw [HMJ.out, HMM.out]; exact this))])
        clear hq hext
        go_wp2_with fail
        go_ret
        exact ⟨_, rfl, by rw [E.out]; exact Own.nil _ _, X2⟩
    · have hjR : j = rows.length := by omega
      have E : Hid (cFold p rows cs = tab M (fk p rows cs rows.length)) := Lib.hid (by
        unfold cFold
        rw [if_pos ⟨HV.out, by omega, HE.out, decide_eq_true (fun i hi => HALL.out i (by omega))⟩, HMM.out])
      have HLEN : Hid (∀ i, i < rows.length → (rows.getD i []).length = M) := Lib.hid (fun i hi => by rw [HMM.out]; exact HALL.out i (by omega))
      have HJR := Lib.hid hjR
      have hlt' : ¬ (j < rows.length) := hlt
      have HX2 := Lib.hid X2
      clear hjR hext X2 hlt X HALL
      obtain ⟨w5, rfl⟩ : ∃ q : World, q = wr := ⟨_, rfl⟩
      go_wp2_with fail
      clear hmk
      have H5 := Lib.hid h0
      go_loopw [53] (FoRel p rows cs M w5.heap.size w5) (fun i _ => rows.length - (intOf i).toNat)
      case atStart =>
        refine ⟨0, rfl, Nat.zero_le _, ?_, (Ext.refl _).alloc _⟩
        have := Arr.ofBlk (Blk.new w5 (rowA (List.replicate M 0))) (by simp; omega)
        rw [List.length_replicate] at this
        rw [show tab M (fk p rows cs 0) = List.replicate M 0 from by unfold tab; apply List.ext_getElem <;> simp [fk]]; exact this
      case round =>
        obtain ⟨i, rfl, hi, ag, hext⟩ := hrel
        replace h0 := hext.cell h0
        have HAG := Lib.hid ag
        have HEX := Lib.hid hext
        clear ag hext
        by_cases hlt : i < rows.length
        · obtain ⟨ai, ci, ki, ri⟩ := HROW.out i hlt
          have hli := HLEN.out i hlt
          rw [hli] at ki
          have kix := HEX.out.cell (HX2.out.cell ki)
          have HRI := Lib.hid ri
          have HLI := Lib.hid hli
          clear ri hli ki k0x
          go_wp2_with fail
          go_loopw [60] (FiRel p rows cs M w5.heap.size i w5) (fun j _ => M - (intOf j).toNat)
          case atStart => exact ⟨0, rfl, Nat.zero_le _, by rw [tab_congr (G := fk p rows cs i) (fun t _ => by unfold fkQ; rw [if_neg (by omega)])]; exact HAG.out, HEX.out⟩
          case round =>
            obtain ⟨j, rfl, hj, ag, hext⟩ := hrel
            have HAG2 := Lib.hid ag
            have HEX2 := Lib.hid hext
            replace h0 := hext.cell H5.out
            by_cases hlt2 : j < M
            · obtain ⟨gi, oi, rfl, hci⟩ := HRI.out.at (by rw [HLI.out]; omega)
              have cx := hext.cell (HX2.out.cell (hci j (by rw [HLI.out]; exact hlt2)))
              obtain ⟨gb, ob, rfl, hcb⟩ := HB.out.at (by rw [← HE.out]; omega)
              have hib : i < cs.length := by rw [← HE.out]; exact hlt
              have cb := hext.cell (HX2.out.cell (hcb i hib))
              have dj := ag.at (i := j) (by rw [tab_len]; exact hlt2)
              rw [tab_get _ _ _ hlt2, show fkQ p rows cs i j j = fk p rows cs i j from by unfold fkQ; rw [if_neg (by omega)]] at dj
              have hst := fkQ_step p rows cs i j M
              obtain ⟨x, hx0⟩ : ∃ x, x = (rows.getD i []).getD j 0 := ⟨_, rfl⟩
              obtain ⟨y, hy0⟩ : ∃ y, y = cs.getD i 0 := ⟨_, rfl⟩
              obtain ⟨z, hz0⟩ : ∃ z, z = fk p rows cs i j := ⟨_, rfl⟩
              rw [← hx0] at cx hst
              rw [← hy0] at cb hst
              rw [← hz0] at dj hst
              have HST := Lib.hid hst
              clear ag hext hst hx0 hy0 hz0 hci hcb kix
              go_wp2_with fail
              refine region_facts [[], [], [], [], [], [(3, 68), (4, 69)], [(5, 70)], [], [], [], [], [(9, 74), (10, 75)], [(11, 76)], [(7, 72), (8, 73), (12, 77)], [(2, 67), (6, 71), (13, 78)], [(0, 65), (1, 66)]] [some 65, some 66, some 67, some 68, some 69, some 70, some 71, some 72, some 73, some 74, some 75, some 76, some 77, some 78, some 79, some 80] (by kernel_rfl) (by kernel_rfl) ?_
              with_reducible apply From.eq
              · intro w' hx; have h0x := hx.cell h0; have djx := hx.cell dj; have cbx := hx.cell cb; (try dsimp only [List.nil_append, List.cons_append]); dsimp only [DepsV, fat, eqF]; go_wp2; exact OpPost.some _ rfl rfl (Ext.refl _) rfl
              with_reducible apply From.eq
              · intro w' hx; have h0x := hx.cell h0; have djx := hx.cell dj; have cbx := hx.cell cb; (try dsimp only [List.nil_append, List.cons_append]); dsimp only [DepsV, fat, eqF]; go_wp2; exact OpPost.some _ rfl rfl (Ext.refl _) rfl
              with_reducible apply From.eq
              · intro w' hx; have h0x := hx.cell h0; have djx := hx.cell dj; have cbx := hx.cell cb; (try dsimp only [List.nil_append, List.cons_append]); dsimp only [DepsV, fat, eqF]; go_wp2; exact OpPost.some _ rfl rfl (Ext.refl _) rfl
              with_reducible apply From.eq
              · intro w' hx; have h0x := hx.cell h0; have djx := hx.cell dj; have cbx := hx.cell cb; (try dsimp only [List.nil_append, List.cons_append]); dsimp only [DepsV, fat, eqF]; go_wp2; exact OpPost.some _ rfl rfl (Ext.refl _) rfl
              with_reducible apply From.eq
              · intro w' hx; have h0x := hx.cell h0; have djx := hx.cell dj; have cbx := hx.cell cb; (try dsimp only [List.nil_append, List.cons_append]); dsimp only [DepsV, fat, eqF]; go_wp2; exact OpPost.some _ rfl rfl (Ext.refl _) rfl
              with_reducible apply From.eq
              · intro w' hx; have h0x := hx.cell h0; have djx := hx.cell dj; have cbx := hx.cell cb; (try dsimp only [List.nil_append, List.cons_append]); dsimp only [DepsV, fat, eqF]; rintro _ rfl _ rfl; go_wp2; exact OpPost.some _ rfl rfl (Ext.refl _) rfl
              with_reducible apply From.eq
              · intro w' hx; have h0x := hx.cell h0; have djx := hx.cell dj; have cbx := hx.cell cb; (try dsimp only [List.nil_append, List.cons_append]); dsimp only [DepsV, fat, eqF]; rintro _ rfl; go_wp2; exact OpPost.some _ rfl rfl (Ext.refl _) rfl
              with_reducible apply From.eq
              · intro w' hx; have h0x := hx.cell h0; have djx := hx.cell dj; have cbx := hx.cell cb; (try dsimp only [List.nil_append, List.cons_append]); dsimp only [DepsV, fat, eqF]; go_wp2; exact OpPost.some _ rfl rfl (Ext.refl _) rfl
              with_reducible apply From.eq
              · intro w' hx; have h0x := hx.cell h0; have djx := hx.cell dj; have cbx := hx.cell cb; (try dsimp only [List.nil_append, List.cons_append]); dsimp only [DepsV, fat, eqF]; go_wp2; exact OpPost.some _ rfl rfl (Ext.refl _) rfl
              with_reducible apply From.eq
              · intro w' hx; have h0x := hx.cell h0; have djx := hx.cell dj; have cbx := hx.cell cb; (try dsimp only [List.nil_append, List.cons_append]); dsimp only [DepsV, fat, eqF]; go_wp2; exact OpPost.some _ rfl rfl (Ext.refl _) rfl
              with_reducible apply From.eq
              · intro w' hx; have h0x := hx.cell h0; have djx := hx.cell dj; have cbx := hx.cell cb; (try dsimp only [List.nil_append, List.cons_append]); dsimp only [DepsV, fat, eqF]; go_wp2; exact OpPost.some _ rfl rfl (Ext.refl _) rfl
              with_reducible apply From.eq
              · intro w' hx; have h0x := hx.cell h0; have djx := hx.cell dj; have cbx := hx.cell cb; (try dsimp only [List.nil_append, List.cons_append]); dsimp only [DepsV, fat, eqF]; rintro _ rfl _ rfl; go_wp2; exact OpPost.some _ rfl rfl (Ext.refl _) rfl
              with_reducible apply From.eq
              · intro w' hx; have h0x := hx.cell h0; have djx := hx.cell dj; have cbx := hx.cell cb; (try dsimp only [List.nil_append, List.cons_append]); dsimp only [DepsV, fat, eqF]; rintro _ rfl; go_wp2; exact OpPost.some _ rfl rfl (Ext.refl _) rfl
              with_reducible apply From.eq
              · intro w' hx; have h0x := hx.cell h0; have djx := hx.cell dj; have cbx := hx.cell cb; (try dsimp only [List.nil_append, List.cons_append]); dsimp only [DepsV, fat, eqF]; rintro _ rfl _ rfl _ rfl; go_wp2_with (go_at_call 44; refine (Mul_c _ _ _ _).mono ?_; rintro e w2 ⟨rfl, hb2⟩); exact OpPost.some _ rfl rfl hb2 rfl
              with_reducible apply From.eq
              · intro w' hx; have h0x := hx.cell h0; have djx := hx.cell dj; have cbx := hx.cell cb; (try dsimp only [List.nil_append, List.cons_append]); dsimp only [DepsV, fat, eqF]; rintro _ rfl _ rfl _ rfl; go_wp2_with (go_at_call 54; refine (Add_c _ _ _ _).mono ?_; rintro e w2 ⟨rfl, hb2⟩); exact OpPost.some _ rfl rfl hb2 rfl
              with_reducible apply From.eq
              · intro w' hx; have h0x := hx.cell h0; have djx := hx.cell dj; have cbx := hx.cell cb; (try dsimp only [List.nil_append, List.cons_append]); dsimp only [DepsV, fat, eqF]; rintro _ rfl _ rfl; go_wp2; exact OpPost.some _ rfl rfl (Ext.refl _) rfl
              with_reducible refine From.fin ?_
              intro w' hx
              (try dsimp only [List.nil_append, List.cons_append]); dsimp only [EndV, eqF]; rintro _ rfl _ rfl _ rfl _ rfl _ rfl _ rfl _ rfl _ rfl _ rfl _ rfl _ rfl _ rfl _ rfl _ rfl _ rfl _ rfl; simp only [Act.put, List.setIfInBounds_toArray, List.set_cons_zero, List.set_cons_succ]
              have A6 := HAG2.out.ext hx
              have f6 := A6.frozen j
              have d6 := A6.at (i := j) (by rw [tab_len]; exact hlt2)
              have HA6 := Lib.hid A6
              have HEX4 := Lib.hid (HEX2.out.trans hx)
              clear A6
              go_wp2
              go_roundw
              case rel =>
                refine ⟨j + 1, by go_num, by omega, ?_, HEX4.out.setNew (Nat.le_refl _) _⟩
                rw [← HST.out]; exact HA6.out.set j _ (by rw [tab_len]; exact hlt2)
              case measure => simp [intOf]; omega
            · have HAG3 : Hid (Arr wr w5.heap.size (tab M (fk p rows cs (i + 1))) M) := Lib.hid (by
                rw [tab_congr (G := fk p rows cs (i + 1)) (fun t ht => by unfold fkQ; rw [if_pos (by omega)])] at ag
                exact ag)
              clear ag hext kix
              go_wp2_with fail
              go_roundw
              case rel => exact ⟨i + 1, by go_num, by omega, HAG3.out, HEX2.out⟩
              case measure => simp [intOf]; omega
        · obtain hiR : i = rows.length := by omega
          have HO : Hid (Own wr w.heap.size (.slice (some ⟨w5.heap.size, 0, none⟩) M M) (cFold p rows cs)) := Lib.hid (by
            have := HAG.out.own (base := w.heap.size) HX2.out.size
            rw [tab_len] at this
            rw [E.out, ← hiR]; exact this)
          have XX := HX2.out.trans HEX.out
          clear hiR k0x
          go_wp2_with fail
          go_ret
          exact ⟨_, rfl, HO.out, XX⟩
end Go.Proofs.Ytgnngifnoaagjaa
