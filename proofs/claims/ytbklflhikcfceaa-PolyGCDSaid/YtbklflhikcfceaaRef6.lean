/- Contracts of moidoreref03 and poly, fourth part: Interpolate, GCD. -/
import Derived.Test.YtbklflhikcfceaaRef5
namespace Go.Proofs.Ytbklflhikcfceaa
open Go.RowKit

theorem Rd.dropAt {w : World} {b off : Nat} {l : List Nat} (h : Rd w (some ⟨b, off, none⟩) l) (k : Nat) : Rd w (some ⟨b, off + k, none⟩) (l.drop k) := by
  rcases h with h | ⟨b', off', ha, hc⟩
  · left; simp [h]
  · injection ha with ha; injection ha with h1 h2; subst h1 h2
    right
    refine ⟨b, off + k, rfl, fun i hi => ?_⟩
    have h2 : k + i < l.length := by simp at hi; omega
    rw [Nat.add_assoc, hc (k + i) h2]
    simp [List.getD, List.getElem?_drop]

def IRel (p : Nat) (xs ys : List Nat) (w : World) (v s : Value) (wr : World) : Prop :=
  ∃ k : Nat, s = .int .i64 k ∧ k ≤ xs.length ∧ Own wr w.heap.size v (Q.rintK p xs ys k) ∧ Ext w wr

set_option maxRecDepth 100000 in
set_option maxHeartbeats 4000000 in
theorem RInter_c (p : Nat) (l m : List Nat) (a b : Option Addr) (c d : Nat) (w : World) (ha : Rd w a l) (hb : Rd w b m) (hl : l.length ≤ 1000) (hm : l.length = m.length) (hlc : l.length ≤ c) :
    Calls Try.prog 26 #[.int .u64 p, .slice a l.length c, .slice b m.length d] w (SlPost w (Q.rinter p l m)) := by
  have HA := Lib.hid ha
  have HB := Lib.hid hb
  have HM := Lib.hid hm
  clear ha hb hm
  go_enter Try.func26, Try.ntmps26
  go_wp2
  go_loopw [7, 8] (IRel p l m w) (fun _ i _ => l.length - (intOf i).toNat)
  case atStart => exact ⟨0, rfl, Nat.zero_le _, Own.nil _ _, Ext.refl _⟩
  case round =>
    obtain ⟨k, rfl, hk, hown, hext⟩ := hrel
    by_cases hlt : k < l.length
    · obtain ⟨ga, offa, rfl, hcell⟩ := HA.out.at (by omega)
      obtain ⟨gb, offb, rfl, hcell2⟩ := HB.out.at (by rw [← HM.out]; omega)
      have hkm : k < m.length := by rw [← HM.out]; omega
      have c1 := hext.cell (hcell k hlt)
      have c2 := hext.cell (hcell2 k hkm)
      have HO := Lib.hid hown
      have HL := Lib.hid (Q.oth_len l k hlt)
      have RA := Lib.hid (HA.out.ext hext)
      have T1 : Hid (Rd wr (some ⟨ga, offa, none⟩) (l.take k) ∧ (l.take k).length = k) := Lib.hid ⟨RA.out.take k, by simp; omega⟩
      have T2 : Hid (Rd wr (some ⟨ga, offa + (k + 1), none⟩) (l.drop (k + 1)) ∧ (l.drop (k + 1)).length = l.length - (k + 1)) := Lib.hid ⟨RA.out.dropAt (k + 1), by simp⟩
      have E0 : Hid (l.take k ++ l.drop (k + 1) = Q.oth l k) := Lib.hid rfl
      have E1 : Hid (Q.rintK p l m (k + 1) = radd p (Q.rintK p l m k) (rscale p (Q.rvan p (Q.oth l k)) (Q.rcoef p l m k))) := Lib.hid rfl
      have E2 : Hid (Q.rcoef p l m k = fmul p (m.getD k 0) (finv p (reval p (l.getD k 0) (Q.rvan p (Q.oth l k))))) := Lib.hid rfl
      have h3 := Q.rintK_le p l m k hk
      have h4 := Q.rvan_le p (Q.oth l k)
      rw [HL.out] at h4
      obtain ⟨x, hx0⟩ : ∃ x, x = l.getD k 0 := ⟨_, rfl⟩
      obtain ⟨y, hy0⟩ : ∃ y, y = m.getD k 0 := ⟨_, rfl⟩
      obtain ⟨V, hV0⟩ : ∃ V, V = Q.rvan p (Q.oth l k) := ⟨_, rfl⟩
      obtain ⟨I, hI0⟩ : ∃ I, I = Q.rintK p l m k := ⟨_, rfl⟩
      rw [← hx0] at c1 E2
      rw [← hy0] at c2 E2
      rw [← hV0] at h4 E1 E2
      rw [← hI0] at HO h3 E1
      have HV : Hid (Q.rvan p (Q.oth l k) = V) := Lib.hid hV0.symm
      obtain ⟨aI, cI, rfl, _, _, rI⟩ := HO.out.form
      have RI := Lib.hid rI
      clear hcell hcell2 hown hx0 hy0 hV0 hI0 rI
      have hcc : c = k + 1 ∨ k + 1 < c := by omega
      have D0 : Hid (∀ v2 w2, Own w2 wr.heap.size v2 ([] ++ l.take k ++ l.drop (k + 1)) → Own w2 wr.heap.size v2 (Q.oth l k)) := Lib.hid fun v2 w2 h => by rw [List.nil_append] at h; exact h
      rcases hcc with hcc | hcc
      · subst hcc
        have TN : Hid (([] ++ l.take k ++ [] : List Nat) = [] ++ l.take k ++ l.drop (k + 1)) := Lib.hid (by
          have : l.drop (k + 1) = [] := by apply List.eq_nil_of_length_eq_zero; simp; omega
          rw [this])
        go_wp2_with (first | (at_builtin; refine wpList_app rfl (.tmp 18) (.tmp 21) rfl wr.heap.size _ [] rfl (Own.nil _ _) (some ⟨ga, offa, none⟩) (l.take k) _ (by rw [T1.out.2]; rfl) T1.out.1 (by rw [T1.out.2]; simp; omega) (Nat.le_refl _) ?_; intro v1 w1 o1 x1 _; replace x1 := x1 wr (Ext.refl _) (Nat.le_refl _)) | (at_builtin; refine wpList_app rfl (.tmp 23) (.tmp 27) rfl wr.heap.size _ _ rfl o1 _ [] _ rfl (Rd.nil _ _) (by rw [List.length_append, T1.out.2]; simp; omega) x1.size ?_; intro v2 w2 o2 x2 _; replace x2 := x2 wr x1 (Nat.le_refl _); rw [TN.out] at o2))
        obtain ⟨ao, co, rfl, _, _, ro⟩ := (D0.out _ _ o2).form
        refine (RVan_c p (Q.oth l k) ao co w2 ro (by rw [HL.out]; omega)).mono ?_; rintro e w3 ⟨v, rfl, o3, x3⟩
        rw [HV.out] at o3
        obtain ⟨aV, cV, rfl, _, _, rV⟩ := o3.form
        have RV := Lib.hid rV
        have X3 := x2.trans x3
        replace c1 := X3.cell c1
        replace c2 := X3.cell c2
        clear o1 o2 o3 ro rV x1 x2 x3
        go_wp2_with fail
        refine region_facts [[], [], [], [(1, 33), (2, 34)], [(3, 35)], [], [], [], [], [], [(8, 40), (9, 41)], [(10, 42)], [(6, 38), (7, 39), (11, 43)], [(5, 37), (12, 44)], [(0, 32), (4, 36), (13, 45)], [(14, 46)]] [some 32, some 33, some 34, some 35, some 36, some 37, some 38, some 39, some 40, some 41, some 42, some 43, some 44, some 45, some 46, some 11] (by kernel_rfl) (by kernel_rfl) ?_
        with_reducible apply From.eq
        · intro w' hx; have c1x := hx.cell c1; have c2x := hx.cell c2; (try dsimp only [List.nil_append, List.cons_append]); dsimp only [DepsV, fat, eqF]; go_wp2; exact OpPost.some _ rfl rfl (Ext.refl _) rfl
        with_reducible apply From.eq
        · intro w' hx; have c1x := hx.cell c1; have c2x := hx.cell c2; (try dsimp only [List.nil_append, List.cons_append]); dsimp only [DepsV, fat, eqF]; go_wp2; exact OpPost.some _ rfl rfl (Ext.refl _) rfl
        with_reducible apply From.eq
        · intro w' hx; have c1x := hx.cell c1; have c2x := hx.cell c2; (try dsimp only [List.nil_append, List.cons_append]); dsimp only [DepsV, fat, eqF]; go_wp2; exact OpPost.some _ rfl rfl (Ext.refl _) rfl
        with_reducible apply From.eq
        · intro w' hx; have c1x := hx.cell c1; have c2x := hx.cell c2; (try dsimp only [List.nil_append, List.cons_append]); dsimp only [DepsV, fat, eqF]; rintro _ rfl _ rfl; go_wp2; exact OpPost.some _ rfl rfl (Ext.refl _) rfl
        with_reducible apply From.eq
        · intro w' hx; have c1x := hx.cell c1; have c2x := hx.cell c2; (try dsimp only [List.nil_append, List.cons_append]); dsimp only [DepsV, fat, eqF]; rintro _ rfl; go_wp2; exact OpPost.some _ rfl rfl (Ext.refl _) rfl
        with_reducible apply From.eq
        · intro w' hx; have c1x := hx.cell c1; have c2x := hx.cell c2; (try dsimp only [List.nil_append, List.cons_append]); dsimp only [DepsV, fat, eqF]; go_wp2; exact OpPost.some _ rfl rfl (Ext.refl _) rfl
        with_reducible apply From.eq
        · intro w' hx; have c1x := hx.cell c1; have c2x := hx.cell c2; (try dsimp only [List.nil_append, List.cons_append]); dsimp only [DepsV, fat, eqF]; go_wp2; exact OpPost.some _ rfl rfl (Ext.refl _) rfl
        with_reducible apply From.eq
        · intro w' hx; have c1x := hx.cell c1; have c2x := hx.cell c2; (try dsimp only [List.nil_append, List.cons_append]); dsimp only [DepsV, fat, eqF]; go_wp2; exact OpPost.some _ rfl rfl (Ext.refl _) rfl
        with_reducible apply From.eq
        · intro w' hx; have c1x := hx.cell c1; have c2x := hx.cell c2; (try dsimp only [List.nil_append, List.cons_append]); dsimp only [DepsV, fat, eqF]; go_wp2; exact OpPost.some _ rfl rfl (Ext.refl _) rfl
        with_reducible apply From.eq
        · intro w' hx; have c1x := hx.cell c1; have c2x := hx.cell c2; (try dsimp only [List.nil_append, List.cons_append]); dsimp only [DepsV, fat, eqF]; go_wp2; exact OpPost.some _ rfl rfl (Ext.refl _) rfl
        with_reducible apply From.eq
        · intro w' hx; have c1x := hx.cell c1; have c2x := hx.cell c2; (try dsimp only [List.nil_append, List.cons_append]); dsimp only [DepsV, fat, eqF]; rintro _ rfl _ rfl; go_wp2; exact OpPost.some _ rfl rfl (Ext.refl _) rfl
        with_reducible apply From.eq
        · intro w' hx; have c1x := hx.cell c1; have c2x := hx.cell c2; (try dsimp only [List.nil_append, List.cons_append]); dsimp only [DepsV, fat, eqF]; rintro _ rfl; go_wp2; exact OpPost.some _ rfl rfl (Ext.refl _) rfl
        with_reducible apply From.eq
        · intro w' hx; have c1x := hx.cell c1; have c2x := hx.cell c2; (try dsimp only [List.nil_append, List.cons_append]); dsimp only [DepsV, fat, eqF]; rintro _ rfl _ rfl _ rfl; go_wp2_with (go_at_call 24; refine (REval_c p V aV cV _ _ (RV.out.ext hx) (by omega)).mono ?_; rintro e w2 ⟨rfl, hb2⟩); exact OpPost.some _ rfl rfl hb2 rfl
        with_reducible apply From.eq
        · intro w' hx; have c1x := hx.cell c1; have c2x := hx.cell c2; (try dsimp only [List.nil_append, List.cons_append]); dsimp only [DepsV, fat, eqF]; rintro _ rfl _ rfl; go_wp2_with (go_at_call 49; refine (RInv_c _ _ _).mono ?_; rintro e w2 ⟨rfl, hb2⟩); exact OpPost.some _ rfl rfl hb2 rfl
        with_reducible apply From.eq
        · intro w' hx; have c1x := hx.cell c1; have c2x := hx.cell c2; (try dsimp only [List.nil_append, List.cons_append]); dsimp only [DepsV, fat, eqF]; rintro _ rfl _ rfl _ rfl; go_wp2_with (go_at_call 34; refine (RMul_c _ _ _ _).mono ?_; rintro e w2 ⟨rfl, hb2⟩); exact OpPost.some _ rfl rfl hb2 rfl
        with_reducible apply From.eq
        · intro w' hx; have c1x := hx.cell c1; have c2x := hx.cell c2; (try dsimp only [List.nil_append, List.cons_append]); dsimp only [DepsV, fat, eqF]; rintro _ rfl; go_wp2; exact OpPost.some _ rfl rfl (Ext.refl _) rfl
        with_reducible refine From.fin ?_
        intro w' hx
        (try dsimp only [List.nil_append, List.cons_append]); dsimp only [EndV, eqF]; rintro _ rfl _ rfl _ rfl _ rfl _ rfl _ rfl _ rfl _ rfl _ rfl _ rfl _ rfl _ rfl _ rfl _ rfl _ rfl _ rfl; simp only [Act.put, List.setIfInBounds_toArray, List.set_cons_zero, List.set_cons_succ]
        go_wp2_with fail
        refine (RScale_c p V aV cV _ _ (RV.out.ext hx) (by omega)).mono ?_; rintro e w4 ⟨v, rfl, o4, x4⟩
        rw [← E2.out] at o4
        obtain ⟨aS, cS, rfl, _, _, rS⟩ := o4.form
        have hS := rscale_le p V (Q.rcoef p l m k)
        have RS := Lib.hid rS
        clear o4 rS
        go_wp2_with fail
        refine (RAddP_c p I _ aI aS cI cS _ (RI.out.ext ((X3.trans hx).trans x4)) RS.out (by omega) (by omega)).mono ?_; rintro e w5 ⟨v, rfl, o5, x5⟩
        go_wp2_with fail
        go_roundw
        case rel =>
          have X := (hext.trans (X3.trans hx)).trans x4
          refine ⟨k + 1, by go_num, by omega, ?_, X.trans x5⟩
          rw [E1.out]; exact o5.base X.size
        case measure => simp [intOf]; omega
      · go_wp2_with (first | (at_builtin; refine wpList_app rfl (.tmp 18) (.tmp 21) rfl wr.heap.size _ [] rfl (Own.nil _ _) (some ⟨ga, offa, none⟩) (l.take k) _ (by rw [T1.out.2]; rfl) T1.out.1 (by rw [T1.out.2]; simp; omega) (Nat.le_refl _) ?_; intro v1 w1 o1 x1 _; replace x1 := x1 wr (Ext.refl _) (Nat.le_refl _)) | (at_builtin; refine wpList_app rfl (.tmp 23) (.tmp 27) rfl wr.heap.size _ _ rfl o1 _ (l.drop (k + 1)) _ (by rw [T2.out.2]; rfl) (T2.out.1.ext x1) (by rw [List.length_append, T2.out.2, T1.out.2]; simp; omega) x1.size ?_; intro v2 w2 o2 x2 _; replace x2 := x2 wr x1 (Nat.le_refl _)))
        obtain ⟨ao, co, rfl, _, _, ro⟩ := (D0.out _ _ o2).form
        refine (RVan_c p (Q.oth l k) ao co w2 ro (by rw [HL.out]; omega)).mono ?_; rintro e w3 ⟨v, rfl, o3, x3⟩
        rw [HV.out] at o3
        obtain ⟨aV, cV, rfl, _, _, rV⟩ := o3.form
        have RV := Lib.hid rV
        have X3 := x2.trans x3
        replace c1 := X3.cell c1
        replace c2 := X3.cell c2
        clear o1 o2 o3 ro rV x1 x2 x3
        go_wp2_with fail
        refine region_facts [[], [], [], [(1, 33), (2, 34)], [(3, 35)], [], [], [], [], [], [(8, 40), (9, 41)], [(10, 42)], [(6, 38), (7, 39), (11, 43)], [(5, 37), (12, 44)], [(0, 32), (4, 36), (13, 45)], [(14, 46)]] [some 32, some 33, some 34, some 35, some 36, some 37, some 38, some 39, some 40, some 41, some 42, some 43, some 44, some 45, some 46, some 11] (by kernel_rfl) (by kernel_rfl) ?_
        with_reducible apply From.eq
        · intro w' hx; have c1x := hx.cell c1; have c2x := hx.cell c2; (try dsimp only [List.nil_append, List.cons_append]); dsimp only [DepsV, fat, eqF]; go_wp2; exact OpPost.some _ rfl rfl (Ext.refl _) rfl
        with_reducible apply From.eq
        · intro w' hx; have c1x := hx.cell c1; have c2x := hx.cell c2; (try dsimp only [List.nil_append, List.cons_append]); dsimp only [DepsV, fat, eqF]; go_wp2; exact OpPost.some _ rfl rfl (Ext.refl _) rfl
        with_reducible apply From.eq
        · intro w' hx; have c1x := hx.cell c1; have c2x := hx.cell c2; (try dsimp only [List.nil_append, List.cons_append]); dsimp only [DepsV, fat, eqF]; go_wp2; exact OpPost.some _ rfl rfl (Ext.refl _) rfl
        with_reducible apply From.eq
        · intro w' hx; have c1x := hx.cell c1; have c2x := hx.cell c2; (try dsimp only [List.nil_append, List.cons_append]); dsimp only [DepsV, fat, eqF]; rintro _ rfl _ rfl; go_wp2; exact OpPost.some _ rfl rfl (Ext.refl _) rfl
        with_reducible apply From.eq
        · intro w' hx; have c1x := hx.cell c1; have c2x := hx.cell c2; (try dsimp only [List.nil_append, List.cons_append]); dsimp only [DepsV, fat, eqF]; rintro _ rfl; go_wp2; exact OpPost.some _ rfl rfl (Ext.refl _) rfl
        with_reducible apply From.eq
        · intro w' hx; have c1x := hx.cell c1; have c2x := hx.cell c2; (try dsimp only [List.nil_append, List.cons_append]); dsimp only [DepsV, fat, eqF]; go_wp2; exact OpPost.some _ rfl rfl (Ext.refl _) rfl
        with_reducible apply From.eq
        · intro w' hx; have c1x := hx.cell c1; have c2x := hx.cell c2; (try dsimp only [List.nil_append, List.cons_append]); dsimp only [DepsV, fat, eqF]; go_wp2; exact OpPost.some _ rfl rfl (Ext.refl _) rfl
        with_reducible apply From.eq
        · intro w' hx; have c1x := hx.cell c1; have c2x := hx.cell c2; (try dsimp only [List.nil_append, List.cons_append]); dsimp only [DepsV, fat, eqF]; go_wp2; exact OpPost.some _ rfl rfl (Ext.refl _) rfl
        with_reducible apply From.eq
        · intro w' hx; have c1x := hx.cell c1; have c2x := hx.cell c2; (try dsimp only [List.nil_append, List.cons_append]); dsimp only [DepsV, fat, eqF]; go_wp2; exact OpPost.some _ rfl rfl (Ext.refl _) rfl
        with_reducible apply From.eq
        · intro w' hx; have c1x := hx.cell c1; have c2x := hx.cell c2; (try dsimp only [List.nil_append, List.cons_append]); dsimp only [DepsV, fat, eqF]; go_wp2; exact OpPost.some _ rfl rfl (Ext.refl _) rfl
        with_reducible apply From.eq
        · intro w' hx; have c1x := hx.cell c1; have c2x := hx.cell c2; (try dsimp only [List.nil_append, List.cons_append]); dsimp only [DepsV, fat, eqF]; rintro _ rfl _ rfl; go_wp2; exact OpPost.some _ rfl rfl (Ext.refl _) rfl
        with_reducible apply From.eq
        · intro w' hx; have c1x := hx.cell c1; have c2x := hx.cell c2; (try dsimp only [List.nil_append, List.cons_append]); dsimp only [DepsV, fat, eqF]; rintro _ rfl; go_wp2; exact OpPost.some _ rfl rfl (Ext.refl _) rfl
        with_reducible apply From.eq
        · intro w' hx; have c1x := hx.cell c1; have c2x := hx.cell c2; (try dsimp only [List.nil_append, List.cons_append]); dsimp only [DepsV, fat, eqF]; rintro _ rfl _ rfl _ rfl; go_wp2_with (go_at_call 24; refine (REval_c p V aV cV _ _ (RV.out.ext hx) (by omega)).mono ?_; rintro e w2 ⟨rfl, hb2⟩); exact OpPost.some _ rfl rfl hb2 rfl
        with_reducible apply From.eq
        · intro w' hx; have c1x := hx.cell c1; have c2x := hx.cell c2; (try dsimp only [List.nil_append, List.cons_append]); dsimp only [DepsV, fat, eqF]; rintro _ rfl _ rfl; go_wp2_with (go_at_call 49; refine (RInv_c _ _ _).mono ?_; rintro e w2 ⟨rfl, hb2⟩); exact OpPost.some _ rfl rfl hb2 rfl
        with_reducible apply From.eq
        · intro w' hx; have c1x := hx.cell c1; have c2x := hx.cell c2; (try dsimp only [List.nil_append, List.cons_append]); dsimp only [DepsV, fat, eqF]; rintro _ rfl _ rfl _ rfl; go_wp2_with (go_at_call 34; refine (RMul_c _ _ _ _).mono ?_; rintro e w2 ⟨rfl, hb2⟩); exact OpPost.some _ rfl rfl hb2 rfl
        with_reducible apply From.eq
        · intro w' hx; have c1x := hx.cell c1; have c2x := hx.cell c2; (try dsimp only [List.nil_append, List.cons_append]); dsimp only [DepsV, fat, eqF]; rintro _ rfl; go_wp2; exact OpPost.some _ rfl rfl (Ext.refl _) rfl
        with_reducible refine From.fin ?_
        intro w' hx
        (try dsimp only [List.nil_append, List.cons_append]); dsimp only [EndV, eqF]; rintro _ rfl _ rfl _ rfl _ rfl _ rfl _ rfl _ rfl _ rfl _ rfl _ rfl _ rfl _ rfl _ rfl _ rfl _ rfl _ rfl; simp only [Act.put, List.setIfInBounds_toArray, List.set_cons_zero, List.set_cons_succ]
        go_wp2_with fail
        refine (RScale_c p V aV cV _ _ (RV.out.ext hx) (by omega)).mono ?_; rintro e w4 ⟨v, rfl, o4, x4⟩
        rw [← E2.out] at o4
        obtain ⟨aS, cS, rfl, _, _, rS⟩ := o4.form
        have hS := rscale_le p V (Q.rcoef p l m k)
        have RS := Lib.hid rS
        clear o4 rS
        go_wp2_with fail
        refine (RAddP_c p I _ aI aS cI cS _ (RI.out.ext ((X3.trans hx).trans x4)) RS.out (by omega) (by omega)).mono ?_; rintro e w5 ⟨v, rfl, o5, x5⟩
        go_wp2_with fail
        go_roundw
        case rel =>
          have X := (hext.trans (X3.trans hx)).trans x4
          refine ⟨k + 1, by go_num, by omega, ?_, X.trans x5⟩
          rw [E1.out]; exact o5.base X.size
        case measure => simp [intOf]; omega
    · obtain rfl : k = l.length := by omega
      have HO := Lib.hid hown
      clear hown
      go_wp2
      go_ret
      exact ⟨_, rfl, HO.out, hext⟩
end Go.Proofs.Ytbklflhikcfceaa
