/- Contracts: the document's Fewest; awake. -/
import Derived.Test.YtndiaamoapidoaaCoA
namespace Go.Proofs.Ytndiaamoapidoaa
open Go.RowKit

theorem dsc_perm (l : List Nat) : (dsc l).Perm l := by unfold dsc; exact (List.reverse_perm _).trans (srt_perm l)
theorem dsc_sorted (l : List Nat) : (dsc l).Pairwise (· ≥ ·) := by unfold dsc; rw [List.pairwise_reverse]; exact srt_sorted l
theorem dsc_eq {l d : List Nat} (h : d.Perm l) (hs : d.Pairwise (· ≥ ·)) : dsc l = d :=
  List.Perm.eq_of_pairwise (le := (· ≥ ·)) (fun _ _ _ _ h1 h2 => Nat.le_antisymm h2 h1) (dsc_sorted l) hs ((dsc_perm l).trans h.symm)
theorem cut_perm (l : List Nat) (j : Nat) (h : j < l.length) : (l.getD j 0 :: (l.take j ++ l.drop (j + 1))).Perm l := by
  have e : l = l.take j ++ l.getD j 0 :: l.drop (j + 1) := by rw [← drop_cons l j h, List.take_append_drop]
  conv => rhs; rw [e]
  exact List.perm_middle.symm
theorem dsc_top (l : List Nat) (j : Nat) (h : j < l.length) (hm : ∀ i, i < l.length → l.getD i 0 ≤ l.getD j 0) : dsc l = l.getD j 0 :: dsc (l.take j ++ l.drop (j + 1)) := by
  refine dsc_eq (((dsc_perm _).cons _).trans (cut_perm l j h)) ?_
  rw [List.pairwise_cons]
  refine ⟨fun y hy => ?_, dsc_sorted _⟩
  have h2 : y ∈ l := (cut_perm l j h).mem_iff.1 (List.mem_cons_of_mem _ ((dsc_perm _).mem_iff.1 hy))
  obtain ⟨i, hi, rfl⟩ := getD_of_mem h2
  exact hm i hi
theorem fw_done (d : List Nat) (t s n : Nat) (h : t ≤ s) : fw d t s n = n := by cases d <;> simp only [fw, if_pos h]

def TpRel (l : List Nat) (w : World) (v8 v9 : Value) (wr : World) : Prop :=
  ∃ (k : Nat) (p : Int), k ≤ l.length ∧ v9 = .int .i64 k ∧ v8 = .int .i64 p ∧ ((k = 0 ∧ p = -1) ∨ ∃ j : Nat, p = j ∧ j < k ∧ ∀ i, i < k → l.getD i 0 ≤ l.getD j 0) ∧ Ext w wr
def FeRel (l : List Nat) (t : Nat) (w : World) (v5 v6 v7 : Value) (wr : World) : Prop :=
  ∃ (left : List Nat) (s n : Nat), Own wr w.heap.size v5 left ∧ v6 = .int .u64 (s : Int) ∧ v7 = .int .i64 n ∧ s ≤ 4294967295 * n ∧ n + left.length = l.length ∧ (∀ i, i < left.length → left.getD i 0 ≤ 4294967295) ∧ fw (dsc left) t s n = fewM l t ∧ Ext w wr
theorem Rd.drop' {w : World} {g o : Nat} {l : List Nat} (h : ∀ i, i < l.length → w.cell? ⟨g, o + i, none⟩ = some (.int .u64 ((l.getD i 0 : Nat) : Int))) (k : Nat) : Rd w (some ⟨g, o + k, none⟩) (l.drop k) := by
  right
  refine ⟨g, o + k, rfl, fun i hi => ?_⟩
  have h2 : k + i < l.length := by simp at hi; omega
  rw [Nat.add_assoc, h (k + i) h2]
  simp [List.getD]

set_option maxRecDepth 100000 in
set_option maxHeartbeats 8000000 in
theorem RFewest_c (l : List Nat) (t : Nat) (a : Option Addr) (c : Nat) (w : World) (ha : Rd w a l) (hl : l.length ≤ 24) (hsm : ∀ i, i < l.length → l.getD i 0 ≤ 4294967295) :
    Calls Try.prog 16 #[.slice a l.length c, .int .u64 (t : Int)] w fun e w' => e = .returned (.int .i64 (fewM l t)) ∧ Ext w w' := by
  have HO : Hid (Own (w.alloc (.cells #[] 23)) w.heap.size (.slice (some ⟨w.heap.size, 0, none⟩) 0 0) []) := Lib.hid (by
    have hb : Blk (w.alloc (.cells #[] 23)) w.heap.size (rowA ([] ++ [])) := Blk.new _ _
    exact Own.ofBlk hb (Nat.le_refl _) (by simp [maxLen]))
  have HA := Lib.hid ha
  have HSM := Lib.hid hsm
  clear ha hsm
  go_enter Try.func16, Try.ntmps16
  go_wp2_with (at_builtin; refine wpList_app rfl (.tmp 10) (.tmp 11) rfl w.heap.size _ _ rfl HO.out a l c rfl (HA.out.ext ((Ext.refl _).alloc _)) (by simp; omega) (by simp) ?_; intro v' w2 hown2 hx2 _)
  rw [List.nil_append] at hown2
  have O2 := Lib.hid hown2
  have X2 := Lib.hid (hx2 w ((Ext.refl _).alloc _) (Nat.le_refl _))
  clear hown2 hx2
  go_loopw [5, 6, 7] (FeRel l t w) (fun _ _ n _ => l.length + 1 - (intOf n).toNat)
  case atStart => exact ⟨l, 0, 0, O2.out, rfl, rfl, Nat.zero_le _, by omega, HSM.out, rfl, X2.out⟩
  case round =>
    obtain ⟨left, s, n, hown, rfl, rfl, hs, hnl, hls, hfw, hx⟩ := hrel
    have OW := Lib.hid hown
    have LS := Lib.hid hls
    have FW := Lib.hid hfw
    have HX := Lib.hid hx
    clear hls hfw
    by_cases hts : t ≤ s
    · have E : Hid (fewM l t = n) := Lib.hid (by rw [← FW.out]; exact fw_done _ _ _ _ hts)
      clear hown hx
      go_wp2_with fail
      go_ret
      exact ⟨by rw [E.out]; rfl, HX.out⟩
    · by_cases hl0 : left.length = 0
      · have E : Hid (fewM l t = -1) := Lib.hid (by
          rw [← FW.out]
          have : left = [] := List.eq_nil_of_length_eq_zero hl0
          subst this
          rw [show dsc [] = [] from List.eq_nil_of_length_eq_zero (by rw [dsc_len]; rfl)]
          simp only [fw, if_neg hts])
        obtain ⟨la, lc, hv, _, _, _⟩ := hown.form
        rw [hl0] at hv
        subst hv
        clear hown hx
        go_wp2_with fail
        refine wp_loop_rounds 1 ?_
        rw [rounds_succ]
        go_wp2_with fail
        go_ret
        exact ⟨by rw [E.out]; rfl, HX.out⟩
      · obtain ⟨g, C, hv, hbg, hC, harr⟩ := hown.arr (by omega)
        subst hv
        have AR := Lib.hid harr
        clear hown hx harr
        go_wp2_with fail
        go_loopw [8, 9] (TpRel left wr) (fun _ i _ => left.length - (intOf i).toNat)
        case atStart => exact ⟨0, -1, Nat.zero_le _, rfl, rfl, .inl ⟨rfl, rfl⟩, Ext.refl _⟩
        case round =>
          obtain ⟨k, p, hk, rfl, rfl, htp, hxi⟩ := hrel
          have HXI := Lib.hid hxi
          by_cases hkl : k < left.length
          · rcases htp with ⟨rfl, rfl⟩ | ⟨j, rfl, hjk, hmax⟩
            · clear hxi
              go_wp2_with fail
              go_quiet (fail)
              go_wp2_with fail
              go_roundw
              case rel => exact ⟨1, 0, by omega, by go_num, by go_num, .inr ⟨0, rfl, by omega, fun i hi => by
                have e : i = 0 := by omega
                subst e; exact Nat.le_refl _⟩, HXI.out.trans (below_drewN (Ext.refl _) _)⟩
              case measure => simp [intOf]; omega
            · have ck := hxi.cell (AR.out.at hkl)
              have cj := hxi.cell (AR.out.at (i := j) (by omega))
              have HM := Lib.hid hmax
              have tg : decide ((j : Int) < 0) = false := decide_eq_false (by omega)
              by_cases hq : left.getD j 0 < left.getD k 0
              · have HQ := Lib.hid hq
                obtain ⟨x, hx0⟩ : ∃ x, x = left.getD k 0 := ⟨_, rfl⟩
                obtain ⟨y, hy0⟩ : ∃ y, y = left.getD j 0 := ⟨_, rfl⟩
                rw [← hx0] at ck hq
                rw [← hy0] at cj hq
                clear hxi hmax hx0 hy0
                go_wp2_with fail
                go_quiet (fail)
                go_wp2_with fail
                go_roundw
                case rel => exact ⟨k + 1, k, by omega, by go_num, by go_num, .inr ⟨k, rfl, by omega, fun i hi => by
                  by_cases e : i = k
                  · subst e; exact Nat.le_refl _
                  · exact Nat.le_of_lt (Nat.lt_of_le_of_lt (HM.out i (by omega)) HQ.out)⟩, HXI.out.trans (below_drewN (Ext.refl _) _)⟩
                case measure => simp [intOf]; omega
              · have HQ := Lib.hid hq
                obtain ⟨x, hx0⟩ : ∃ x, x = left.getD k 0 := ⟨_, rfl⟩
                obtain ⟨y, hy0⟩ : ∃ y, y = left.getD j 0 := ⟨_, rfl⟩
                rw [← hx0] at ck hq
                rw [← hy0] at cj hq
                clear hxi hmax hx0 hy0
                go_wp2_with fail
                go_quiet (fail)
                go_wp2_with fail
                go_roundw
                case rel => exact ⟨k + 1, j, by omega, by go_num, by go_num, .inr ⟨j, rfl, by omega, fun i hi => by
                  by_cases e : i = k
                  · subst e; exact Nat.le_of_not_lt HQ.out
                  · exact HM.out i (by omega)⟩, HXI.out.trans (below_drewN (Ext.refl _) _)⟩
                case measure => simp [intOf]; omega
          · obtain rfl : k = left.length := by omega
            rcases htp with ⟨e, _⟩ | ⟨j, rfl, hjk, hmax⟩
            · exact absurd e hl0
            have AI := Lib.hid (AR.out.ext hxi)
            have XW := Lib.hid (HX.out.trans hxi)
            have cj := hxi.cell (AR.out.at (i := j) hjk)
            have hxv := LS.out j hjk
            have DT := Lib.hid (dsc_top left j hjk hmax)
            have ST : Hid (fw (dsc (left.take j ++ left.drop (j + 1))) t (s + left.getD j 0) (n + 1) = fewM l t) := Lib.hid (by
              rw [← FW.out, DT.out]; simp only [fw, if_neg hts])
            have HX0 : Hid (∀ i, i < (left.take j ++ left.drop (j + 1)).length → (left.take j ++ left.drop (j + 1)).getD i 0 ≤ 4294967295) := Lib.hid (fun i hi => by
              have h1 := getD_mem hi
              have h2 := (cut_perm left j hjk).mem_iff.1 (List.mem_cons_of_mem _ h1)
              obtain ⟨q, hq, e⟩ := getD_of_mem h2
              have := LS.out q hq
              omega)
            obtain ⟨x, hx0⟩ : ∃ x, x = left.getD j 0 := ⟨_, rfl⟩
            rw [← hx0] at cj hxv ST
            clear hxi hmax hx0
            go_wp2_with fail
            refine region_factsH 4 [[], [], [], [(1, 45), (2, 46)], [(0, 44), (3, 47)], [], [], [(6, 50)], [(5, 49), (7, 51)]] [some 44, some 45, some 46, some 47, some 48, some 49, some 50, some 51, some 52] (by kernel_rfl) (by kernel_rfl) (by decide) ?_
            refine FromH.pre (OwnF wr.heap.size []) (fun _ => True) (by kernel_rfl) OwnF.mono (fun _ _ _ => trivial) ?_ ?_
            · intro w' hx; (try dsimp only [List.nil_append, List.cons_append]); dsimp only [DepsV, fat, eqF, valF]; go_wp2; refine PostI.some _ rfl rfl ⟨(Ext.refl _).alloc _, ?_⟩
              have hb : Blk (w'.alloc (.cells #[] 23)) w'.heap.size (rowA ([] ++ [])) := Blk.new _ _
              exact (Own.ofBlk hb (Nat.le_refl _) (by simp [maxLen])).base hx.size
            with_reducible apply FromH.preEq
            · kernel_rfl
            · intro w' hx; (try dsimp only [List.nil_append, List.cons_append]); dsimp only [DepsV, fat, eqF, valF]; go_wp2; exact PostI.some _ rfl rfl ⟨Ext.refl _, rfl⟩
            with_reducible apply FromH.preEq
            · kernel_rfl
            · intro w' hx; (try dsimp only [List.nil_append, List.cons_append]); dsimp only [DepsV, fat, eqF, valF]; go_wp2; exact PostI.some _ rfl rfl ⟨Ext.refl _, rfl⟩
            with_reducible apply FromH.preEq
            · kernel_rfl
            · intro w' hx; (try dsimp only [List.nil_append, List.cons_append]); dsimp only [DepsV, fat, eqF, valF]; rintro _ rfl; rintro _ rfl; go_wp2; exact PostI.some _ rfl rfl ⟨Ext.refl _, rfl⟩
            refine FromH.wr (OwnF wr.heap.size (left.take j)) rfl OwnF.mono ?_ ?_
            · intro w' hx; (try dsimp only [List.nil_append, List.cons_append]); dsimp only [DepsV, fat, eqF, valF]; rintro v0 h0; rintro _ rfl; go_wp2_with (at_builtin; refine wpList_app rfl (.tmp 44) (.tmp 47) rfl wr.heap.size _ _ rfl h0 (some ⟨g, 0, none⟩) (left.take j) C (by simp only [List.length_take, Nat.min_eq_left (Nat.le_of_lt hjk)]; rfl) ((AI.out.rd.take j).ext hx) (by simp; omega) hx.size ?_; intro v' w6 hown6 hx6 _); exact PostI.some _ rfl rfl ⟨hx6 _ hx (Nat.le_refl _), by rw [List.nil_append] at hown6; exact hown6⟩
            with_reducible apply FromH.beq
            · decide
            · kernel_rfl
            · intro w' hx; (try dsimp only [List.nil_append, List.cons_append]); dsimp only [DepsV, fat, eqF, valF]; go_wp2; exact PostI.some _ rfl rfl ⟨Ext.refl _, rfl⟩
            with_reducible apply FromH.beq
            · decide
            · kernel_rfl
            · intro w' hx; (try dsimp only [List.nil_append, List.cons_append]); dsimp only [DepsV, fat, eqF, valF]; go_wp2; exact PostI.some _ rfl rfl ⟨Ext.refl _, rfl⟩
            with_reducible apply FromH.beq
            · decide
            · kernel_rfl
            · intro w' hx; (try dsimp only [List.nil_append, List.cons_append]); dsimp only [DepsV, fat, eqF, valF]; rintro _ rfl; go_wp2; exact PostI.some _ rfl rfl ⟨Ext.refl _, rfl⟩
            refine FromH.be (fun v => ∃ A, v = .slice A (left.drop (j + 1)).length (C - (j + 1)) ∧ (A = some ⟨g, 0 + (j + 1), none⟩ ∨ left.drop (j + 1) = [])) (by decide) (by kernel_rfl) ?_ ?_
            · intro w' hx; (try dsimp only [List.nil_append, List.cons_append]); dsimp only [DepsV, fat, eqF, valF]; rintro _ rfl; rintro _ rfl; rcases Nat.lt_or_ge (j + 1) C with hck | hck
              · have hne : ¬ C = j + 1 := by omega
                go_wp2; exact PostI.some _ rfl rfl ⟨Ext.refl _, _, by rw [List.length_drop], .inl (by simp)⟩
              · have hck2 : C = j + 1 := by omega
                go_wp2; exact PostI.some _ rfl rfl ⟨Ext.refl _, _, by rw [List.length_drop]; first | rfl | (congr 1 <;> omega), .inr (List.drop_eq_nil_of_le (by omega))⟩
            with_reducible refine FromH.fin ?_
            intro w' hx
            (try dsimp only [List.nil_append, List.cons_append]); dsimp only [EndV, eqF, valF]; rintro v0 _ _ rfl _ rfl _ rfl v4 h4 _ rfl _ rfl _ rfl v8 h8; simp only [Act.put, List.setIfInBounds_toArray, List.set_cons_zero, List.set_cons_succ]
            obtain ⟨A8, rfl, hA8⟩ := h8
            have RDD : Hid (Rd w' A8 (left.drop (j + 1))) := Lib.hid (by
              rcases hA8 with rfl | hA8
              · exact Rd.drop' (fun i hi => hx.cell (by rw [Nat.zero_add]; exact AI.out.at hi)) (j + 1)
              · rw [hA8]; exact Rd.nil _ _)
            have hsz := hx.size
            have H4 := Lib.hid h4
            have HX4 := Lib.hid hx
            clear hx h4 hA8
            go_wp2_with (at_builtin; refine wpList_app rfl (.tmp 48) (.tmp 52) rfl wr.heap.size _ _ rfl H4.out A8 (left.drop (j + 1)) (C - (j + 1)) rfl RDD.out (by simp; omega) hsz ?_; intro v7 w7 hown7 hx7 _)
            have X7 := Lib.hid (hx7 _ HX4.out (Nat.le_refl _))
            have O7 := Lib.hid hown7
            clear hown7 hx7
            go_roundw
            case rel => exact ⟨left.take j ++ left.drop (j + 1), s + x, n + 1, O7.out.base (XW.out.size), by go_num, by go_num, by omega, by simp; omega, HX0.out, ST.out, XW.out.trans X7.out⟩
            case measure => simp [intOf]; omega
end Go.Proofs.Ytndiaamoapidoaa
