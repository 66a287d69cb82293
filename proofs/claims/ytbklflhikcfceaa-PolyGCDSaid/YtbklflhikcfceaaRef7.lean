/- Contract of poly.GCD. -/
import Derived.Test.YtbklflhikcfceaaRef6
import Derived.Test.YtbklflhikcfceaaMath1
namespace Go.Proofs.Ytbklflhikcfceaa
open Go.RowKit

theorem DivMod_any (p : Nat) (l m : List Nat) (a b : Option Addr) (c d : Nat) (w : World) (hv : vld p = true) (ha : Rd w a l) (hb : Rd w b m) (hl : l.length ≤ 10000) (hm : m.length ≤ 10000) (h0 : 0 < (trimP p m).length) :
    Calls Try.prog 14 #[.agg #[.int .u64 p], .slice a l.length c, .slice b m.length d] w (DMPost w (pquo p l m) (prem p l m) 0) := by
  by_cases h : (trimP p l).length < (trimP p m).length
  · have := DivMod_short p l m a b c d w hv ha hb (by omega) (by omega) (by omega) h
    have e1 : pquo p l m = [] := by unfold pquo; rw [if_pos h]
    have e2 : prem p l m = trimP p l := by unfold prem; rw [if_pos h]
    rw [e1, e2]; exact this
  · exact DivMod_long p l m a b c d w hv ha hb (by omega) (by omega) (by omega) (by omega)

def GRel2 (p : Nat) (G : List Nat) (w w2 : World) (u v : Value) (wr : World) : Prop :=
  ∃ (k : Nat) (a b : List Nat), Q.eg p k a b = G ∧ b.length ≤ k ∧ a.length ≤ 10000 ∧ b.length ≤ 10000 ∧ (trimP p a = a ∧ trimP p b = b) ∧ Own wr w.heap.size u a ∧ Own wr w.heap.size v b ∧ Ext w2 wr

set_option maxRecDepth 100000 in
set_option maxHeartbeats 4000000 in
theorem GCD_c (p : Nat) (l m : List Nat) (a b : Option Addr) (c d : Nat) (w : World) (ha : Rd w a l) (hb : Rd w b m) (hl : l.length ≤ 10000) (hm : m.length ≤ 10000) :
    Calls Try.prog 37 #[.agg #[.int .u64 p], .slice a l.length c, .slice b m.length d] w (SlPost w (Q.monic p (Q.pgcd p l m))) := by
  have HT1 := Lib.hid (fun w' (h : Ext (w.alloc (.cells #[.int .u64 p] 27)) w') => Trim_c p l a c w' (ha.ext h.box) (by omega))
  have HT2 := Lib.hid (fun w' (h : Ext (w.alloc (.cells #[.int .u64 p] 27)) w') => Trim_c p m b d w' (hb.ext h.box) (by omega))
  have hAl := trimP_le p l
  have hBl := trimP_le p m
  have hE : Hid (Q.eg p (trimP p m).length (trimP p l) (trimP p m) = Q.pgcd p l m) := Lib.hid rfl
  have HTT : Hid (trimP p (trimP p l) = trimP p l ∧ trimP p (trimP p m) = trimP p m) := Lib.hid ⟨trimPP p l, trimPP p m⟩
  obtain ⟨A, hA0⟩ : ∃ A, A = trimP p l := ⟨_, rfl⟩
  obtain ⟨B, hB0⟩ : ∃ B, B = trimP p m := ⟨_, rfl⟩
  obtain ⟨G, hG0⟩ : ∃ G, G = Q.pgcd p l m := ⟨_, rfl⟩
  rw [← hA0] at HT1 hAl hE HTT
  rw [← hB0] at HT2 hBl hE HTT
  rw [← hG0] at hE
  rw [← hG0]
  clear hA0 hB0 hG0 ha hb
  go_enter Try.func37, Try.ntmps37
  go_wp2
  have hc : (w.alloc (.cells #[.int .u64 p] 27)).cell? ⟨w.heap.size, 0, none⟩ = some (.int .u64 p) := by simp
  refine region_facts [[], [], [(0, 10), (1, 11)], [], [], [(3, 13), (4, 14)], [(2, 12)], [(5, 15)]] [some 10, some 11, some 12, some 13, some 14, some 15, some 1, some 2] (by kernel_rfl) (by kernel_rfl) ?_
  with_reducible apply From.eq
  · intro w' hx; have hcx := hx.cell hc; (try dsimp only [List.nil_append, List.cons_append]); dsimp only [DepsV, fat, eqF]; go_wp2; exact OpPost.some _ rfl rfl (Ext.refl _) rfl
  with_reducible apply From.eq
  · intro w' hx; have hcx := hx.cell hc; (try dsimp only [List.nil_append, List.cons_append]); dsimp only [DepsV, fat, eqF]; go_wp2; exact OpPost.some _ rfl rfl (Ext.refl _) rfl
  refine From.step (OwnF w.heap.size A) (OwnF.mono) ?_ ?_
  · intro w' hx; have hcx := hx.cell hc; (try dsimp only [List.nil_append, List.cons_append]); dsimp only [DepsV, fat, eqF]; rintro _ rfl _ rfl; skip;
    go_wp2_with (go_at_call 31; refine (HT1.out _ hx).mono ?_; rintro e w2 ⟨v, rfl, ho, hn⟩); exact OpPost.some _ rfl rfl hn (ho.base hx.box.size)
  with_reducible apply From.eq
  · intro w' hx; have hcx := hx.cell hc; (try dsimp only [List.nil_append, List.cons_append]); dsimp only [DepsV, fat, eqF]; go_wp2; exact OpPost.some _ rfl rfl (Ext.refl _) rfl
  with_reducible apply From.eq
  · intro w' hx; have hcx := hx.cell hc; (try dsimp only [List.nil_append, List.cons_append]); dsimp only [DepsV, fat, eqF]; go_wp2; exact OpPost.some _ rfl rfl (Ext.refl _) rfl
  refine From.step (OwnF w.heap.size B) (OwnF.mono) ?_ ?_
  · intro w' hx; have hcx := hx.cell hc; (try dsimp only [List.nil_append, List.cons_append]); dsimp only [DepsV, fat, eqF]; rintro _ rfl _ rfl; skip;
    go_wp2_with (go_at_call 31; refine (HT2.out _ hx).mono ?_; rintro e w2 ⟨v, rfl, ho, hn⟩); exact OpPost.some _ rfl rfl hn (ho.base hx.box.size)
  refine From.step (OwnF w.heap.size A) (OwnF.mono) ?_ ?_
  · intro w' hx; have hcx := hx.cell hc; (try dsimp only [List.nil_append, List.cons_append]); dsimp only [DepsV, fat, eqF]; rintro v2 h2; go_wp2; exact OpPost.some _ rfl rfl (Ext.refl _) h2
  refine From.step (OwnF w.heap.size B) (OwnF.mono) ?_ ?_
  · intro w' hx; have hcx := hx.cell hc; (try dsimp only [List.nil_append, List.cons_append]); dsimp only [DepsV, fat, eqF]; rintro v5 h5; go_wp2; exact OpPost.some _ rfl rfl (Ext.refl _) h5
  with_reducible refine From.fin ?_
  intro w' hx
  (try dsimp only [List.nil_append, List.cons_append]); dsimp only [EndV, eqF]; rintro _ rfl _ rfl v2 h2 _ rfl _ rfl v5 h5 v6_ h6_ v7_ h7_; simp only [Act.put, List.setIfInBounds_toArray, List.set_cons_zero, List.set_cons_succ]
  have o1 : Own w' w.heap.size v6_ A := h6_
  have o2 : Own w' w.heap.size v7_ B := h7_
  clear h2 h5 h6_ h7_ hc
  have hext0 : Ext w w' := hx.box
  have hc := hx.boxCell
  have HO1 := Lib.hid o1
  have HO2 := Lib.hid o2
  clear o1 o2 hx
  go_wp2_with fail
  go_loopw [1, 2] (GRel2 p G w w') (fun _ v _ => lenOf v)
  case atStart => exact ⟨_, A, B, hE.out, Nat.le_refl _, by omega, by omega, HTT.out, HO1.out, HO2.out, Ext.refl _⟩
  case round =>
    clear HO1 HO2 HT1 HT2 hE HTT
    obtain ⟨k, a, b, hE, hk, ha, hb, ht, o1, o2, hext⟩ := hrel
    obtain ⟨a1, c1, rfl, _, _, r1⟩ := o1.form
    obtain ⟨a2, c2, rfl, _, _, r2⟩ := o2.form
    replace hc := hext.cell hc
    by_cases h0 : b.length = 0
    · obtain rfl : b = [] := List.eq_nil_of_length_eq_zero h0
      rw [Q.eg_nil] at hE
      subst hE
      by_cases hz : a.length = 0
      · obtain rfl : a = [] := List.eq_nil_of_length_eq_zero hz
        clear o1 o2 r1 r2 ht
        go_wp2_with fail
        go_ret
        exact ⟨_, rfl, Own.nil _ _, hext0.trans hext⟩
      · obtain ⟨n, hn⟩ : ∃ n, a.length = n + 1 := ⟨a.length - 1, by omega⟩
        obtain ⟨g, off, rfl, hcell⟩ := r1.at (by omega)
        have c3 := hcell n (by omega)
        obtain ⟨x, hx0⟩ : ∃ x, x = a.getD n 0 := ⟨_, rfl⟩
        rw [← hx0] at c3
        have hv := trimP_vld ht.1 hz
        have SC : Hid (∀ W y, Ext wr W → Calls Try.prog 41 #[.agg #[.int .u64 p], .slice (some ⟨g, off, none⟩) (n + 1 : Nat) c1, .int .u64 (y : Nat)] W (SlPost W (rscale p a y))) := Lib.hid fun W y h => by
          rw [← hn, ← Q.scale_same]; exact ScaleP_c p a _ c1 y W (r1.ext h) (by omega)
        have E : Hid (Q.monic p a = rscale p a (finv p x)) := Lib.hid (by unfold Q.monic; rw [if_neg hz, hn, Nat.add_sub_cancel, hx0])
        have hz1 : ((n + 1 : Nat) : Int) - 1 = (n : Int) := by omega
        rw [hn]
        rw [hn] at ha
        have t1 : (((n + 1 : Nat) : Int) == 0) = false := beq_eq_false_iff_ne.2 (by omega)
        clear o1 o2 r1 r2 ht hcell hx0 hz hn hv
        go_wp2_with fail
        refine region_facts [[], [], [], [], [], [(4, 36)], [(5, 37)], [(3, 35), (6, 38)], [(7, 39)], [(2, 34), (8, 40)], [(0, 32), (1, 33), (9, 41)], [(10, 42)]] [some 32, some 33, some 34, some 35, some 36, some 37, some 38, some 39, some 40, some 41, some 42, some 6] (by kernel_rfl) (by kernel_rfl) ?_
        with_reducible apply From.eq
        · intro w' hx; have hcx := hx.cell hc; have c3x := hx.cell c3; (try dsimp only [List.nil_append, List.cons_append]); dsimp only [DepsV, fat, eqF]; go_wp2; exact OpPost.some _ rfl rfl (Ext.refl _) rfl
        with_reducible apply From.eq
        · intro w' hx; have hcx := hx.cell hc; have c3x := hx.cell c3; (try dsimp only [List.nil_append, List.cons_append]); dsimp only [DepsV, fat, eqF]; go_wp2; exact OpPost.some _ rfl rfl (Ext.refl _) rfl
        with_reducible apply From.eq
        · intro w' hx; have hcx := hx.cell hc; have c3x := hx.cell c3; (try dsimp only [List.nil_append, List.cons_append]); dsimp only [DepsV, fat, eqF]; go_wp2; exact OpPost.some _ rfl rfl (Ext.refl _) rfl
        with_reducible apply From.eq
        · intro w' hx; have hcx := hx.cell hc; have c3x := hx.cell c3; (try dsimp only [List.nil_append, List.cons_append]); dsimp only [DepsV, fat, eqF]; go_wp2; exact OpPost.some _ rfl rfl (Ext.refl _) rfl
        with_reducible apply From.eq
        · intro w' hx; have hcx := hx.cell hc; have c3x := hx.cell c3; (try dsimp only [List.nil_append, List.cons_append]); dsimp only [DepsV, fat, eqF]; go_wp2; exact OpPost.some _ rfl rfl (Ext.refl _) rfl
        with_reducible apply From.eq
        · intro w' hx; have hcx := hx.cell hc; have c3x := hx.cell c3; (try dsimp only [List.nil_append, List.cons_append]); dsimp only [DepsV, fat, eqF]; rintro _ rfl; go_wp2; exact OpPost.some _ rfl rfl (Ext.refl _) rfl
        with_reducible apply From.eq
        · intro w' hx; have hcx := hx.cell hc; have c3x := hx.cell c3; (try dsimp only [List.nil_append, List.cons_append]); dsimp only [DepsV, fat, eqF]; rintro _ rfl; go_wp2; exact OpPost.some _ rfl rfl (Ext.refl _) rfl
        with_reducible apply From.eq
        · intro w' hx; have hcx := hx.cell hc; have c3x := hx.cell c3; (try dsimp only [List.nil_append, List.cons_append]); dsimp only [DepsV, fat, eqF]; rintro _ rfl _ rfl; go_wp2; exact OpPost.some _ rfl rfl (Ext.refl _) rfl
        with_reducible apply From.eq
        · intro w' hx; have hcx := hx.cell hc; have c3x := hx.cell c3; (try dsimp only [List.nil_append, List.cons_append]); dsimp only [DepsV, fat, eqF]; rintro _ rfl; go_wp2; exact OpPost.some _ rfl rfl (Ext.refl _) rfl
        with_reducible apply From.eq
        · intro w' hx; have hcx := hx.cell hc; have c3x := hx.cell c3; (try dsimp only [List.nil_append, List.cons_append]); dsimp only [DepsV, fat, eqF]; rintro _ rfl _ rfl; go_wp2_with (go_at_call 44; refine (Inv_c _ _ _).mono ?_; rintro e w2 ⟨rfl, hb2⟩); exact OpPost.some _ rfl rfl hb2 rfl
        refine From.step (OwnF w.heap.size (rscale p a (finv p x))) (OwnF.mono) ?_ ?_
        · intro w' hx; have hcx := hx.cell hc; have c3x := hx.cell c3; (try dsimp only [List.nil_append, List.cons_append]); dsimp only [DepsV, fat, eqF]; rintro _ rfl _ rfl _ rfl; skip;
          go_wp2_with (go_at_call 41; refine (SC.out _ _ hx).mono ?_; rintro e w2 ⟨v, rfl, ho, hn⟩); exact OpPost.some _ rfl rfl hn (ho.base ((hext0.trans hext).trans hx).size)
        refine From.step (OwnF w.heap.size (rscale p a (finv p x))) (OwnF.mono) ?_ ?_
        · intro w' hx; have hcx := hx.cell hc; have c3x := hx.cell c3; (try dsimp only [List.nil_append, List.cons_append]); dsimp only [DepsV, fat, eqF]; rintro v10 h10; go_wp2; exact OpPost.some _ rfl rfl (Ext.refl _) h10
        with_reducible refine From.fin ?_
        intro w' hx
        (try dsimp only [List.nil_append, List.cons_append]); dsimp only [EndV, eqF]; rintro _ rfl _ rfl _ rfl _ rfl _ rfl _ rfl _ rfl _ rfl _ rfl _ rfl v10 h10 v11_ h11_; simp only [Act.put, List.setIfInBounds_toArray, List.set_cons_zero, List.set_cons_succ]
        go_wp2
        go_ret
        exact ⟨_, rfl, by rw [E.out]; exact h11_, (hext0.trans hext).trans hx⟩
    · obtain ⟨hv, hz, hE2, hlt, ht2⟩ := g_step hE hk ht h0
      have t1 : decide (0 < b.length) = true := by simp; omega
      have DM := Lib.hid (DivMod_any p a b a1 a2 c1 c2 wr hv r1 r2 ha hb hz)
      have HH := Lib.hid (And.intro hE2 (And.intro hlt (And.intro ht2 ht.2)))
      have HO2 := Lib.hid o2
      have h1 : 0 < b.length := by omega
      clear hE ht hv hz hE2 hlt ht2 r1 r2 o1 o2 h0
      go_wp2_with fail
      refine DM.out.mono ?_; rintro e w3 ⟨v, u, rfl, o3, o4, x3⟩
      have HO4 := Lib.hid o4
      clear o3 o4
      go_wp2_with fail
      go_roundw
      case rel => exact ⟨k - 1, b, _, HH.out.1, by have := HH.out.2.1; omega, hb, by have := HH.out.2.1; omega, ⟨HH.out.2.2.2, HH.out.2.2.1⟩, HO2.out.grow x3, HO4.out.base (hext0.trans hext).size, hext.trans x3⟩
      case measure =>
        obtain ⟨a8, c8, rfl, _, _, _⟩ := HO4.out.form
        exact HH.out.2.1
end Go.Proofs.Ytbklflhikcfceaa
