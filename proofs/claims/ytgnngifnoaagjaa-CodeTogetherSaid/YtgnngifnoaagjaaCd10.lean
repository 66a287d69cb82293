/- Contract: the document's Fold. -/
import Derived.Test.YtgnngifnoaagjaaCd9
namespace Go.Proofs.Ytgnngifnoaagjaa
open Go.RowKit

def FrRel (p : Nat) (rows : List (List Nat)) (cs : List Nat) (M g : Nat) (w1 : World) (s : Value) (wr : World) : Prop :=
  ∃ i : Nat, s = .int .i64 i ∧ i ≤ rows.length ∧ (∀ t, t < i → (rows.getD t []).length = M) ∧ Arr wr g (tab M (fk p rows cs i)) M ∧ Ext w1 wr

set_option maxRecDepth 100000 in
set_option maxHeartbeats 4000000 in
theorem RFold_c (p : Nat) (rows : List (List Nat)) (cs : List Nat) (a b : Option Addr) (c d : Nat) (w : World) (ha : RdR w a rows) (hb : Rd w b cs) (hR : rows.length ≤ 1000000) (hM : (rows.getD 0 []).length ≤ 1000000) :
    Calls Try.prog 33 #[.int .u64 p, .slice a rows.length c, .slice b cs.length d] w (SlPost w (cFold p rows cs)) := by
  have HA := Lib.hid ha
  have HB := Lib.hid hb
  clear ha hb
  cases hv : vld p
  case false =>
    have V := Lib.hid hv
    have E : Hid (cFold p rows cs = []) := Lib.hid (by unfold cFold; rw [if_neg (fun h => by rw [hv] at h; cases h.1)])
    clear hv
    go_enter Try.func33, Try.ntmps33
    go_wp2_with fail
    refine (RValid_c _ _).mono ?_; rintro e w1 ⟨rfl, x1⟩; rw [V.out]
    go_wp2_with fail
    go_ret
    exact ⟨_, rfl, by rw [E.out]; exact Own.nil _ _, x1⟩
  have V := Lib.hid hv
  by_cases hz : rows.length = 0
  case pos =>
    have E : Hid (cFold p rows cs = []) := Lib.hid (by unfold cFold; rw [if_neg (fun h => h.2.1 hz)])
    have t1 : ((rows.length : Int) == 0) = true := beq_iff_eq.2 (by omega)
    clear hv hz
    go_enter Try.func33, Try.ntmps33
    go_wp2_with fail
    refine (RValid_c _ _).mono ?_; rintro e w1 ⟨rfl, x1⟩; rw [V.out]
    go_wp2_with fail
    go_ret
    exact ⟨_, rfl, by rw [E.out]; exact Own.nil _ _, x1⟩
  have t1 : ((rows.length : Int) == 0) = false := beq_eq_false_iff_ne.2 (by omega)
  by_cases he : rows.length = cs.length
  case neg =>
    have E : Hid (cFold p rows cs = []) := Lib.hid (by unfold cFold; rw [if_neg (fun h => he h.2.2.1)])
    have t2 : ((rows.length : Int) != (cs.length : Int)) = true := bne_iff_ne.2 (by omega)
    clear hv hz he
    go_enter Try.func33, Try.ntmps33
    go_wp2_with fail
    refine (RValid_c _ _).mono ?_; rintro e w1 ⟨rfl, x1⟩; rw [V.out]
    go_wp2_with fail
    go_ret
    exact ⟨_, rfl, by rw [E.out]; exact Own.nil _ _, x1⟩
  have t2 : ((rows.length : Int) != (cs.length : Int)) = false := by rw [he]; simp
  have HE := Lib.hid he
  have HV := Lib.hid hv
  have hz1 : 0 < rows.length := by omega
  obtain ⟨gr, ofr, rfl, hrow⟩ := HA.out.at hz1
  have HROW := Lib.hid hrow
  clear he hv hrow hz
  obtain ⟨M, hMM⟩ : ∃ M, M = (rows.getD 0 []).length := ⟨_, rfl⟩
  have HMM := Lib.hid hMM
  rw [← hMM] at hM
  clear hMM
  obtain ⟨a0, c0, k0, _⟩ := HROW.out 0 hz1
  rw [← HMM.out, Nat.add_zero] at k0
  have hmk := make_c M M (Nat.le_refl _) (by omega)
  go_enter Try.func33, Try.ntmps33
  go_wp2_with fail
  refine (RValid_c _ _).mono ?_; rintro e w5 ⟨rfl, x1⟩; rw [V.out]
  replace k0 := x1.cell k0
  have HX2 := Lib.hid x1
  clear x1
  go_wp2_with fail
  clear hmk
  go_loopw [8] (FrRel p rows cs M w5.heap.size w5) (fun i _ => rows.length - (intOf i).toNat)
  case atStart =>
    refine ⟨0, rfl, Nat.zero_le _, fun i hi => absurd hi (by omega), ?_, (Ext.refl _).alloc _⟩
    have := Arr.ofBlk (Blk.new w5 (rowA (List.replicate M 0))) (by simp; omega)
    rw [List.length_replicate] at this
    rw [show tab M (fk p rows cs 0) = List.replicate M 0 from by unfold tab; apply List.ext_getElem <;> simp [fk]]; exact this
  case round =>
    obtain ⟨i, rfl, hi, hall, ag, hext⟩ := hrel
    have HALL := Lib.hid hall
    have HAG := Lib.hid ag
    have HEX := Lib.hid hext
    clear ag hext hall k0
    by_cases hlt : i < rows.length
    · obtain ⟨ai, ci, ki, ri⟩ := HROW.out i hlt
      have KI := Lib.hid (HX2.out.cell ki)
      have kix := HEX.out.cell KI.out
      obtain ⟨mi, hmi⟩ : ∃ mi, mi = (rows.getD i []).length := ⟨_, rfl⟩
      rw [← hmi] at kix KI
      have HMI := Lib.hid hmi
      have HRI := Lib.hid ri
      clear ri ki hmi
      by_cases hq : mi = M
      case neg =>
        have t3 : ((mi : Int) != (M : Int)) = true := bne_iff_ne.2 (by omega)
        have E : Hid (cFold p rows cs = []) := Lib.hid (by
          unfold cFold
          rw [if_neg (fun h => hq (by have := of_decide_eq_true h.2.2.2 i hlt; rw [HMI.out, HMM.out]; exact this))])
        have XX := HX2.out.trans HEX.out
        clear hq
        go_wp2_with fail
        go_ret
        exact ⟨_, rfl, by rw [E.out]; exact Own.nil _ _, XX⟩
      have HLI : Hid ((rows.getD i []).length = M) := Lib.hid (by rw [← HMI.out]; exact hq)
      rw [hq] at kix KI
      have t3 : ((M : Int) != (M : Int)) = false := by simp
      clear hq HMI
      go_wp2_with fail
      go_loopw [9] (FiRel p rows cs M w5.heap.size i w5) (fun j _ => M - (intOf j).toNat)
      case atStart => exact ⟨0, rfl, Nat.zero_le _, by rw [tab_congr (G := fk p rows cs i) (fun t _ => by unfold fkQ; rw [if_neg (by omega)])]; exact HAG.out, HEX.out⟩
      case round =>
        obtain ⟨j, rfl, hj, ag, hext⟩ := hrel
        have HAG2 := Lib.hid ag
        have HEX2 := Lib.hid hext
        clear kix
        by_cases hlt2 : j < M
        · obtain ⟨gi, oi, rfl, hci⟩ := HRI.out.at (by rw [HLI.out]; omega)
          have cx := hext.cell (HX2.out.cell (hci j (by rw [HLI.out]; exact hlt2)))
          have ki2 := hext.cell KI.out
          obtain ⟨gb, ob, rfl, hcb⟩ := HB.out.at (by rw [← HE.out]; omega)
          have hib : i < cs.length := by rw [← HE.out]; exact hlt
          have cb := hext.cell (HX2.out.cell (hcb i hib))
          have dj := ag.at (i := j) (by rw [tab_len]; exact hlt2)
          rw [tab_get _ _ _ hlt2, show fkQ p rows cs i j j = fk p rows cs i j from by unfold fkQ; rw [if_neg (by omega)]] at dj
          have hst := fkQ_step p rows cs i j M
          obtain ⟨x, hx0⟩ : ∃ x, x = (rows.getD i []).getD j 0 := ⟨_, rfl⟩
          obtain ⟨y, hy0⟩ : ∃ y, y = cs.getD i 0 := ⟨_, rfl⟩
          obtain ⟨z, hz0⟩ : ∃ z, z = fk p rows cs i j := ⟨_, rfl⟩
          rw [← hx0] at cx hst
          rw [← hy0] at cb hst
          rw [← hz0] at dj hst
          have HST := Lib.hid hst
          clear ag hext hst hx0 hy0 hz0 hci hcb
          go_wp2_with fail
          refine region_facts [[], [], [], [], [], [(3, 53), (4, 54)], [(5, 55)], [], [], [], [(8, 58), (9, 59)], [(10, 60)], [], [(11, 61), (12, 62)], [(13, 63)], [], [], [(15, 65), (16, 66)], [(17, 67)], [(7, 57), (14, 64), (18, 68)], [(2, 52), (6, 56), (19, 69)], [(0, 50), (1, 51)]] [some 50, some 51, some 52, some 53, some 54, some 55, some 56, some 57, some 58, some 59, some 60, some 61, some 62, some 63, some 64, some 65, some 66, some 67, some 68, some 69, some 70, some 71] (by kernel_rfl) (by kernel_rfl) ?_
          with_reducible apply From.eq
          · intro w' hx; have djx := hx.cell dj; have ki2x := hx.cell ki2; have cxx := hx.cell cx; have cbx := hx.cell cb; (try dsimp only [List.nil_append, List.cons_append]); dsimp only [DepsV, fat, eqF]; go_wp2; exact OpPost.some _ rfl rfl (Ext.refl _) rfl
          with_reducible apply From.eq
          · intro w' hx; have djx := hx.cell dj; have ki2x := hx.cell ki2; have cxx := hx.cell cx; have cbx := hx.cell cb; (try dsimp only [List.nil_append, List.cons_append]); dsimp only [DepsV, fat, eqF]; go_wp2; exact OpPost.some _ rfl rfl (Ext.refl _) rfl
          with_reducible apply From.eq
          · intro w' hx; have djx := hx.cell dj; have ki2x := hx.cell ki2; have cxx := hx.cell cx; have cbx := hx.cell cb; (try dsimp only [List.nil_append, List.cons_append]); dsimp only [DepsV, fat, eqF]; go_wp2; exact OpPost.some _ rfl rfl (Ext.refl _) rfl
          with_reducible apply From.eq
          · intro w' hx; have djx := hx.cell dj; have ki2x := hx.cell ki2; have cxx := hx.cell cx; have cbx := hx.cell cb; (try dsimp only [List.nil_append, List.cons_append]); dsimp only [DepsV, fat, eqF]; go_wp2; exact OpPost.some _ rfl rfl (Ext.refl _) rfl
          with_reducible apply From.eq
          · intro w' hx; have djx := hx.cell dj; have ki2x := hx.cell ki2; have cxx := hx.cell cx; have cbx := hx.cell cb; (try dsimp only [List.nil_append, List.cons_append]); dsimp only [DepsV, fat, eqF]; go_wp2; exact OpPost.some _ rfl rfl (Ext.refl _) rfl
          with_reducible apply From.eq
          · intro w' hx; have djx := hx.cell dj; have ki2x := hx.cell ki2; have cxx := hx.cell cx; have cbx := hx.cell cb; (try dsimp only [List.nil_append, List.cons_append]); dsimp only [DepsV, fat, eqF]; rintro _ rfl _ rfl; go_wp2; exact OpPost.some _ rfl rfl (Ext.refl _) rfl
          with_reducible apply From.eq
          · intro w' hx; have djx := hx.cell dj; have ki2x := hx.cell ki2; have cxx := hx.cell cx; have cbx := hx.cell cb; (try dsimp only [List.nil_append, List.cons_append]); dsimp only [DepsV, fat, eqF]; rintro _ rfl; go_wp2; exact OpPost.some _ rfl rfl (Ext.refl _) rfl
          with_reducible apply From.eq
          · intro w' hx; have djx := hx.cell dj; have ki2x := hx.cell ki2; have cxx := hx.cell cx; have cbx := hx.cell cb; (try dsimp only [List.nil_append, List.cons_append]); dsimp only [DepsV, fat, eqF]; go_wp2; exact OpPost.some _ rfl rfl (Ext.refl _) rfl
          with_reducible apply From.eq
          · intro w' hx; have djx := hx.cell dj; have ki2x := hx.cell ki2; have cxx := hx.cell cx; have cbx := hx.cell cb; (try dsimp only [List.nil_append, List.cons_append]); dsimp only [DepsV, fat, eqF]; go_wp2; exact OpPost.some _ rfl rfl (Ext.refl _) rfl
          with_reducible apply From.eq
          · intro w' hx; have djx := hx.cell dj; have ki2x := hx.cell ki2; have cxx := hx.cell cx; have cbx := hx.cell cb; (try dsimp only [List.nil_append, List.cons_append]); dsimp only [DepsV, fat, eqF]; go_wp2; exact OpPost.some _ rfl rfl (Ext.refl _) rfl
          with_reducible apply From.eq
          · intro w' hx; have djx := hx.cell dj; have ki2x := hx.cell ki2; have cxx := hx.cell cx; have cbx := hx.cell cb; (try dsimp only [List.nil_append, List.cons_append]); dsimp only [DepsV, fat, eqF]; rintro _ rfl _ rfl; go_wp2; exact OpPost.some _ rfl rfl (Ext.refl _) rfl
          with_reducible apply From.eq
          · intro w' hx; have djx := hx.cell dj; have ki2x := hx.cell ki2; have cxx := hx.cell cx; have cbx := hx.cell cb; (try dsimp only [List.nil_append, List.cons_append]); dsimp only [DepsV, fat, eqF]; rintro _ rfl; go_wp2; exact OpPost.some _ rfl rfl (Ext.refl _) rfl
          with_reducible apply From.eq
          · intro w' hx; have djx := hx.cell dj; have ki2x := hx.cell ki2; have cxx := hx.cell cx; have cbx := hx.cell cb; (try dsimp only [List.nil_append, List.cons_append]); dsimp only [DepsV, fat, eqF]; go_wp2; exact OpPost.some _ rfl rfl (Ext.refl _) rfl
          with_reducible apply From.eq
          · intro w' hx; have djx := hx.cell dj; have ki2x := hx.cell ki2; have cxx := hx.cell cx; have cbx := hx.cell cb; (try dsimp only [List.nil_append, List.cons_append]); dsimp only [DepsV, fat, eqF]; rintro _ rfl _ rfl; go_wp2; exact OpPost.some _ rfl rfl (Ext.refl _) rfl
          with_reducible apply From.eq
          · intro w' hx; have djx := hx.cell dj; have ki2x := hx.cell ki2; have cxx := hx.cell cx; have cbx := hx.cell cb; (try dsimp only [List.nil_append, List.cons_append]); dsimp only [DepsV, fat, eqF]; rintro _ rfl; go_wp2; exact OpPost.some _ rfl rfl (Ext.refl _) rfl
          with_reducible apply From.eq
          · intro w' hx; have djx := hx.cell dj; have ki2x := hx.cell ki2; have cxx := hx.cell cx; have cbx := hx.cell cb; (try dsimp only [List.nil_append, List.cons_append]); dsimp only [DepsV, fat, eqF]; go_wp2; exact OpPost.some _ rfl rfl (Ext.refl _) rfl
          with_reducible apply From.eq
          · intro w' hx; have djx := hx.cell dj; have ki2x := hx.cell ki2; have cxx := hx.cell cx; have cbx := hx.cell cb; (try dsimp only [List.nil_append, List.cons_append]); dsimp only [DepsV, fat, eqF]; go_wp2; exact OpPost.some _ rfl rfl (Ext.refl _) rfl
          with_reducible apply From.eq
          · intro w' hx; have djx := hx.cell dj; have ki2x := hx.cell ki2; have cxx := hx.cell cx; have cbx := hx.cell cb; (try dsimp only [List.nil_append, List.cons_append]); dsimp only [DepsV, fat, eqF]; rintro _ rfl _ rfl; go_wp2; exact OpPost.some _ rfl rfl (Ext.refl _) rfl
          with_reducible apply From.eq
          · intro w' hx; have djx := hx.cell dj; have ki2x := hx.cell ki2; have cxx := hx.cell cx; have cbx := hx.cell cb; (try dsimp only [List.nil_append, List.cons_append]); dsimp only [DepsV, fat, eqF]; rintro _ rfl; go_wp2; exact OpPost.some _ rfl rfl (Ext.refl _) rfl
          with_reducible apply From.eq
          · intro w' hx; have djx := hx.cell dj; have ki2x := hx.cell ki2; have cxx := hx.cell cx; have cbx := hx.cell cb; (try dsimp only [List.nil_append, List.cons_append]); dsimp only [DepsV, fat, eqF]; rintro _ rfl _ rfl _ rfl; go_wp2_with (go_at_call 46; refine (RMul_c _ _ _ _).mono ?_; rintro e w2 ⟨rfl, hb2⟩); exact OpPost.some _ rfl rfl hb2 rfl
          with_reducible apply From.eq
          · intro w' hx; have djx := hx.cell dj; have ki2x := hx.cell ki2; have cxx := hx.cell cx; have cbx := hx.cell cb; (try dsimp only [List.nil_append, List.cons_append]); dsimp only [DepsV, fat, eqF]; rintro _ rfl _ rfl _ rfl; go_wp2_with (go_at_call 55; refine (RAdd_c _ _ _ _).mono ?_; rintro e w2 ⟨rfl, hb2⟩); exact OpPost.some _ rfl rfl hb2 rfl
          with_reducible apply From.eq
          · intro w' hx; have djx := hx.cell dj; have ki2x := hx.cell ki2; have cxx := hx.cell cx; have cbx := hx.cell cb; (try dsimp only [List.nil_append, List.cons_append]); dsimp only [DepsV, fat, eqF]; rintro _ rfl _ rfl; go_wp2; exact OpPost.some _ rfl rfl (Ext.refl _) rfl
          with_reducible refine From.fin ?_
          intro w' hx
          (try dsimp only [List.nil_append, List.cons_append]); dsimp only [EndV, eqF]; rintro _ rfl _ rfl _ rfl _ rfl _ rfl _ rfl _ rfl _ rfl _ rfl _ rfl _ rfl _ rfl _ rfl _ rfl _ rfl _ rfl _ rfl _ rfl _ rfl _ rfl _ rfl _ rfl; simp only [Act.put, List.setIfInBounds_toArray, List.set_cons_zero, List.set_cons_succ]
          have A6 := HAG2.out.ext hx
          have f6 := A6.frozen j
          have d6 := A6.at (i := j) (by rw [tab_len]; exact hlt2)
          have HA6 := Lib.hid A6
          have HEX4 := Lib.hid (HEX2.out.trans hx)
          clear A6
          go_wp2
          go_roundw
          case rel =>
            refine ⟨j + 1, by go_num, by omega, ?_, HEX4.out.setNew (Nat.le_refl _) _⟩
            rw [← HST.out]; exact HA6.out.set j _ (by rw [tab_len]; exact hlt2)
          case measure => simp [intOf]; omega
        · have HAG3 : Hid (Arr wr w5.heap.size (tab M (fk p rows cs (i + 1))) M) := Lib.hid (by
            rw [tab_congr (G := fk p rows cs (i + 1)) (fun t ht => by unfold fkQ; rw [if_pos (by omega)])] at ag
            exact ag)
          clear ag hext
          go_wp2_with fail
          go_roundw
          case rel =>
            refine ⟨i + 1, by go_num, by omega, fun t ht => ?_, HAG3.out, HEX2.out⟩
            by_cases e : t = i
            · subst e; exact HLI.out
            · exact HALL.out t (by omega)
          case measure => simp [intOf]; omega
    · have hiR : i = rows.length := by omega
      have E : Hid (cFold p rows cs = tab M (fk p rows cs rows.length)) := Lib.hid (by
        unfold cFold
        rw [if_pos ⟨HV.out, by omega, HE.out, decide_eq_true (fun t ht => by rw [← HMM.out]; exact HALL.out t (by omega))⟩, HMM.out])
      have HO : Hid (Own wr w.heap.size (.slice (some ⟨w5.heap.size, 0, none⟩) M M) (cFold p rows cs)) := Lib.hid (by
        have := HAG.out.own (base := w.heap.size) HX2.out.size
        rw [tab_len] at this
        rw [E.out, ← hiR]; exact this)
      have XX := HX2.out.trans HEX.out
      clear hiR
      go_wp2_with fail
      go_ret
      exact ⟨_, rfl, HO.out, XX⟩
end Go.Proofs.Ytgnngifnoaagjaa
