/- Walks of laws of layer 4. -/
import Derived.Test.YtcnbinjoeilfgaaTA
import Derived.Test.YtcnbinjoeilfgaaLaw
import Derived.Test.YtcnbinjoeilfgaaTL2
namespace Go.Proofs.Ytcnbinjoeilfgaa
open Go.RowKit

theorem ok_rE {p : Nat} (hv : vld p = true) {n : Int} {s : Nat} (ho : okT p n = true ∧ s % p ≠ 0) (l : List Nat) (h : l.length ≤ 8192) : rE p l s n = (reva p l (s % p) (rootN p n.toNat) n.toNat, 0) := by
  unfold rE; rw [if_neg (by rw [hv]; simp), if_pos ho, if_pos h]
theorem lin_facts {p : Nat} {l m : List Nat} (ho : okT p l.length = true) (hm : l.length = m.length) :
    vld p = true ∧ ∃ X Y Z, tF p l = (X, 0) ∧ tF p m = (Y, 0) ∧ tF p (tab l.length (fun i => fadd p (l.getD i 0) (m.getD i 0))) = (Z, 0) ∧ X.length = l.length ∧ Y.length = l.length ∧ Z.length = l.length ∧
      ∀ i, i < l.length → Z.getD i 0 = fadd p (X.getD i 0) (Y.getD i 0) := by
  obtain ⟨hv, k, hk, hn, hd, _⟩ := okT_spec ho
  haveI := Q.nz_vld hv
  have hn' : l.length = 2 ^ k := by omega
  have h8 := pow_le12 hk
  have h1 : okT p l.length = true ∧ 1 % p ≠ 0 := ⟨ho, by rw [one_mod hv]; omega⟩
  have hS : (tab l.length (fun i => fadd p (l.getD i 0) (m.getD i 0))).length = l.length := tab_len _ _
  refine ⟨hv, reva p l (1 % p) (rootN p (l.length : Int).toNat) (l.length : Int).toNat, reva p m (1 % p) (rootN p (l.length : Int).toNat) (l.length : Int).toNat, reva p (tab l.length (fun i => fadd p (l.getD i 0) (m.getD i 0))) (1 % p) (rootN p (l.length : Int).toNat) (l.length : Int).toNat, (Q.tF_same p l).trans (ok_rE hv h1 l (by omega)), (Q.tF_same p m).trans ?_, (Q.tF_same p _).trans ?_, by unfold reva; rw [tab_len]; rfl, by unfold reva; rw [tab_len]; rfl, by unfold reva; rw [tab_len]; rfl, fun i hi => ?_⟩
  · rw [← hm]; exact ok_rE hv h1 m (by omega)
  · rw [hS]; exact ok_rE hv h1 _ (by omega)
  · have hi' : i < (l.length : Int).toNat := hi
    unfold reva
    rw [tab_get _ _ _ hi', tab_get _ _ _ hi', tab_get _ _ _ hi']
    apply Q.F_inj (p := p) (Q.horner_lt hv _ _) (Q.fadd_lt hv)
    rw [Q.F_fadd hv, Q.F_horner hv, Q.F_horner hv, Q.F_horner hv, hS, ← hm, ← Q.ev_add]
    apply Q.ev_congr; intro t ht
    simp only [Q.addS]
    rw [Q.cf_tab_eq _ _ _ ht, Q.F_fadd hv]; rfl
theorem prod_facts {p : Nat} {l m M : List Nat} (h : tM p l m = (M, 0)) (hl : l.length ≤ 30) (hm : m.length ≤ 30) :
    M.length ≤ 60 ∧ ∀ s n, ∃ (e : Int) (X Y Z : List Nat), rE p l s n = (X, e) ∧ rE p m s n = (Y, e) ∧ rE p M s n = (Z, e) ∧ X.length = Z.length ∧ Y.length = Z.length ∧ Z.length ≤ 4096 ∧
      ∀ i, i < Z.length → Z.getD i 0 = fmul p (X.getD i 0) (Y.getD i 0) := by
  have key : vld p = true ∧ M.length ≤ 60 ∧ ∀ [NeZero p], Q.cf p M = Q.mulS (Q.cf p l) (Q.cf p m) := by
    unfold tM at h
    split at h
    · injection h with _ h2; exact absurd h2 (by decide)
    · rename_i hv
      have hv : vld p = true := by simpa using hv
      split at h
      · rename_i h0
        injection h with h1 _
        subst h1
        refine ⟨hv, by simp, ?_⟩
        intro _
        rcases h0 with h0 | h0
        · rw [List.eq_nil_of_length_eq_zero h0, Q.cf_nil, Q.mulS_zeroS]
        · rw [List.eq_nil_of_length_eq_zero h0, Q.cf_nil, Q.mulS_comm, Q.mulS_zeroS]
      · rename_i h0
        split at h
        · injection h with h1 _
          subst h1
          refine ⟨hv, by unfold tMul; rw [tab_len]; omega, ?_⟩
          intro _
          exact Q.cf_tMul hv l m (by omega) (by omega)
        · injection h with _ h2; exact absurd h2 (by decide)
  obtain ⟨hv, hM, hc⟩ := key
  refine ⟨hM, fun s n => ?_⟩
  haveI := Q.nz_vld hv
  by_cases ho : okT p n = true ∧ s % p ≠ 0
  · refine ⟨0, _, _, _, ok_rE hv ho l (by omega), ok_rE hv ho m (by omega), ok_rE hv ho M (by omega), by unfold reva; rw [tab_len, tab_len], by unfold reva; rw [tab_len, tab_len], ?_, fun i hi => ?_⟩
    · have := rE_len p M s n
      rw [ok_rE hv ho M (by omega)] at this; exact this
    · have hi' : i < n.toNat := by unfold reva at hi; rw [tab_len] at hi; exact hi
      unfold reva
      rw [tab_get _ _ _ hi', tab_get _ _ _ hi', tab_get _ _ _ hi']
      apply Q.F_inj (p := p) (Q.horner_lt hv _ _) (Q.fmul_lt hv)
      rw [Q.F_fmul hv, Q.F_horner hv, Q.F_horner hv, Q.F_horner hv]
      rw [← Q.ev_mul (Q.cf_deg l) (Q.cf_deg m) _ (M.length + (l.length + m.length)) (by omega), ← hc]
      exact (Q.ev_more (Q.cf_deg M) _ _ (by omega)).symm
  · have hE : ∀ x : List Nat, rE p x s n = ([], 1) := fun x => by unfold rE; rw [if_neg (by rw [hv]; simp), if_neg ho]
    exact ⟨1, [], [], [], hE l, hE m, hE M, rfl, rfl, by simp, fun i hi => absurd hi (by simp)⟩
/-- The fact of a region: a slice of one number. -/
def OneF (z : Nat) : Fact := fun w v => ∃ g, v = .slice (some ⟨g, 0, none⟩) 1 1 ∧ w.cell? ⟨g, 0, none⟩ = some (.int .u64 (z : Int))
theorem OneF.mono {z : Nat} : Mono (OneF z) := fun _ _ _ hx ⟨g, hv, hc⟩ => ⟨g, hv, hx.cell hc⟩
def LnRel (p : Nat) (l m : List Nat) (w0 : World) (v s : Value) (wr : World) : Prop :=
  ∃ k : Nat, s = .int .i64 k ∧ k ≤ l.length ∧ Own wr w0.heap.size v (tab k (fun i => fadd p (l.getD i 0) (m.getD i 0))) ∧ Ext w0 wr

set_option maxRecDepth 100000 in
set_option maxHeartbeats 4000000 in
theorem TransformLinear_w (p : Nat) (l m : List Nat) (a b : Option Addr) (c d : Nat) (w : World) (ha : Rd w a l) (hb : Rd w b m) (hlm : l.length ≤ 9223372036854775807) :
    Calls Try.prog 7 #[.int .u64 p, .slice a l.length c, .slice b m.length d] w fun e w' => e = .returned (.bool true) ∧ Ext w w' := by
  have HA := Lib.hid ha
  have HB := Lib.hid hb
  clear ha hb
  cases hv : vld p
  case false =>
    have V := Lib.hid hv
    clear hv
    go_enter Try.func7, Try.ntmps7
    go_wp2_with fail
    refine (awake4_c _).mono ?_; rintro e w1 ⟨rfl, x2⟩
    have X := x2
    clear x2
    go_wp2_with fail
    refine (RValid_c _ _).mono ?_; rintro e w3 ⟨rfl, x4⟩
    replace X := X.trans x4
    clear x4
    rw [V.out]
    go_wp2_with fail
    refine (awake4_c _).mono ?_; rintro e w5 ⟨rfl, x6⟩
    replace X := X.trans x6
    clear x6
    go_wp2_with fail
    go_ret
    exact ⟨rfl, X⟩
  have V := Lib.hid hv
  clear hv
  by_cases hm : l.length = m.length
  case neg =>
    have t1 : ((l.length : Int) != (m.length : Int)) = true := bne_iff_ne.2 (by omega)
    clear hm
    go_enter Try.func7, Try.ntmps7
    go_wp2_with fail
    refine (awake4_c _).mono ?_; rintro e w1 ⟨rfl, x2⟩
    have X := x2
    clear x2
    go_wp2_with fail
    refine (RValid_c _ _).mono ?_; rintro e w3 ⟨rfl, x4⟩
    replace X := X.trans x4
    clear x4
    rw [V.out]
    go_wp2_with fail
    refine (awake4_c _).mono ?_; rintro e w5 ⟨rfl, x6⟩
    replace X := X.trans x6
    clear x6
    go_wp2_with fail
    go_ret
    exact ⟨rfl, X⟩
  have t1 : ((l.length : Int) != (m.length : Int)) = false := by rw [hm]; simp
  have HM := Lib.hid hm
  clear hm
  by_cases hf : l.length ≤ 64
  case neg =>
    have hd0 : decide ((64 : Int) < l.length) = true := decide_eq_true (by omega)
    clear hf
    go_enter Try.func7, Try.ntmps7
    go_wp2_with fail
    refine (awake4_c _).mono ?_; rintro e w1 ⟨rfl, x2⟩
    have X := x2
    clear x2
    go_wp2_with fail
    refine (RValid_c _ _).mono ?_; rintro e w3 ⟨rfl, x4⟩
    replace X := X.trans x4
    clear x4
    rw [V.out]
    go_wp2_with fail
    refine (awake4_c _).mono ?_; rintro e w5 ⟨rfl, x6⟩
    replace X := X.trans x6
    clear x6
    go_wp2_with fail
    go_ret
    exact ⟨rfl, X⟩
  have hd0 : decide ((64 : Int) < l.length) = false := decide_eq_false (by omega)
  have LC := Lib.hid (fun w' => Length_c p l.length w' (by omega) (by omega))
  by_cases ho : okT p l.length = true
  case neg =>
    have O : Hid (okT p l.length = false) := Lib.hid (by simpa using ho)
    clear ho
    go_enter Try.func7, Try.ntmps7
    go_wp2_with fail
    refine (awake4_c _).mono ?_; rintro e w1 ⟨rfl, x2⟩
    have X := x2
    clear x2
    go_wp2_with fail
    refine (RValid_c _ _).mono ?_; rintro e w3 ⟨rfl, x4⟩
    replace X := X.trans x4
    clear x4
    rw [V.out]
    go_wp2_with fail
    refine (LC.out _).mono ?_; rintro e w5 ⟨rfl, x6⟩
    replace X := X.trans x6
    clear x6
    rw [O.out]
    go_wp2_with fail
    refine (awake4_c _).mono ?_; rintro e w7 ⟨rfl, x8⟩
    replace X := X.trans x8
    clear x8
    go_wp2_with fail
    go_ret
    exact ⟨rfl, X⟩
  have O := Lib.hid ho
  obtain ⟨_, Y1, Y2, Z, f1, f2, f3, l1, l2, l3, hval⟩ := lin_facts ho HM.out
  have C1 := fun w' (h : Rd w' a l) => Forward_c p l a c w' h (by omega)
  have C2 := fun w' (h : Rd w' b m) => Forward_c p m b d w' h (by rw [← HM.out]; omega)
  have C3 := fun w' a' c' (h : Rd w' a' (tab l.length (fun i => fadd p (l.getD i 0) (m.getD i 0)))) => Forward_c p _ a' c' w' h (by rw [tab_len]; omega)
  rw [f1] at C1
  rw [f2] at C2
  rw [f3, tab_len] at C3
  have H1 := Lib.hid C1
  have H2 := Lib.hid C2
  have H3 := Lib.hid C3
  have HL := Lib.hid (And.intro l1 (And.intro l2 l3))
  have HV := Lib.hid hval
  clear ho f1 f2 f3 C1 C2 C3 l1 l2 l3 hval
  go_enter Try.func7, Try.ntmps7
  go_wp2_with fail
  refine (awake4_c _).mono ?_; rintro e w1 ⟨rfl, x2⟩
  have X := x2
  clear x2
  go_wp2_with fail
  refine (RValid_c _ _).mono ?_; rintro e w3 ⟨rfl, x4⟩
  replace X := X.trans x4
  clear x4
  rw [V.out]
  go_wp2_with fail
  refine (LC.out _).mono ?_; rintro e w5 ⟨rfl, x6⟩
  replace X := X.trans x6
  clear x6
  rw [O.out]
  go_wp2_with fail
  clear t1
  go_loopw [8, 48] (LnRel p l m (w5.alloc (.cells #[.int .u64 p] 29))) (fun _ i _ => l.length - (intOf i).toNat)
  case atStart => exact ⟨0, rfl, Nat.zero_le _, Own.nil _ _, Ext.refl _⟩
  case round =>
    obtain ⟨k, rfl, hk, ho, hext⟩ := hrel
    have hc := hext.boxCell
    have HX := Lib.hid hext
    have HO := Lib.hid ho
    have X2 := X.trans hext.box
    clear ho hext
    by_cases hlt : k < l.length
    · obtain ⟨ga, offa, rfl, hcell⟩ := HA.out.at (by omega)
      obtain ⟨gb, offb, rfl, hcell2⟩ := HB.out.at (by rw [← HM.out]; omega)
      have hkm : k < m.length := by rw [← HM.out]; exact hlt
      have ca := X2.cell (hcell k hlt)
      have cb := X2.cell (hcell2 k hkm)
      have Es : Hid (tab (k + 1) (fun i => fadd p (l.getD i 0) (m.getD i 0)) = tab k (fun i => fadd p (l.getD i 0) (m.getD i 0)) ++ [fadd p (l.getD k 0) (m.getD k 0)]) := Lib.hid (tab_succ _ _)
      obtain ⟨x, hx0⟩ : ∃ x, x = l.getD k 0 := ⟨_, rfl⟩
      obtain ⟨y, hy0⟩ : ∃ y, y = m.getD k 0 := ⟨_, rfl⟩
      rw [← hx0] at ca Es
      rw [← hy0] at cb Es
      clear hcell hcell2 hx0 hy0
      go_wp2_with fail
      refine region_facts [[], [], [], [], [(2, 53), (3, 54)], [(4, 55)], [], [], [(6, 57), (7, 58)], [(8, 59)], [(1, 52), (5, 56), (9, 60)], [(10, 61)]] [some 51, some 52, some 53, some 54, some 55, some 56, some 57, some 58, some 59, some 60, some 61, some 62] (by kernel_rfl) (by kernel_rfl) ?_
      with_reducible apply From.eq
      · intro w' hx; have cax := hx.cell ca; have cbx := hx.cell cb; (try dsimp only [List.nil_append, List.cons_append]); dsimp only [DepsV, fat, eqF]; go_wp2; exact OpPost.some _ rfl rfl (Ext.refl _) rfl
      with_reducible apply From.eq
      · intro w' hx; have cax := hx.cell ca; have cbx := hx.cell cb; (try dsimp only [List.nil_append, List.cons_append]); dsimp only [DepsV, fat, eqF]; go_wp2; exact OpPost.some _ rfl rfl (Ext.refl _) rfl
      with_reducible apply From.eq
      · intro w' hx; have cax := hx.cell ca; have cbx := hx.cell cb; (try dsimp only [List.nil_append, List.cons_append]); dsimp only [DepsV, fat, eqF]; go_wp2; exact OpPost.some _ rfl rfl (Ext.refl _) rfl
      with_reducible apply From.eq
      · intro w' hx; have cax := hx.cell ca; have cbx := hx.cell cb; (try dsimp only [List.nil_append, List.cons_append]); dsimp only [DepsV, fat, eqF]; go_wp2; exact OpPost.some _ rfl rfl (Ext.refl _) rfl
      with_reducible apply From.eq
      · intro w' hx; have cax := hx.cell ca; have cbx := hx.cell cb; (try dsimp only [List.nil_append, List.cons_append]); dsimp only [DepsV, fat, eqF]; rintro _ rfl _ rfl; go_wp2; exact OpPost.some _ rfl rfl (Ext.refl _) rfl
      with_reducible apply From.eq
      · intro w' hx; have cax := hx.cell ca; have cbx := hx.cell cb; (try dsimp only [List.nil_append, List.cons_append]); dsimp only [DepsV, fat, eqF]; rintro _ rfl; go_wp2; exact OpPost.some _ rfl rfl (Ext.refl _) rfl
      with_reducible apply From.eq
      · intro w' hx; have cax := hx.cell ca; have cbx := hx.cell cb; (try dsimp only [List.nil_append, List.cons_append]); dsimp only [DepsV, fat, eqF]; go_wp2; exact OpPost.some _ rfl rfl (Ext.refl _) rfl
      with_reducible apply From.eq
      · intro w' hx; have cax := hx.cell ca; have cbx := hx.cell cb; (try dsimp only [List.nil_append, List.cons_append]); dsimp only [DepsV, fat, eqF]; go_wp2; exact OpPost.some _ rfl rfl (Ext.refl _) rfl
      with_reducible apply From.eq
      · intro w' hx; have cax := hx.cell ca; have cbx := hx.cell cb; (try dsimp only [List.nil_append, List.cons_append]); dsimp only [DepsV, fat, eqF]; rintro _ rfl _ rfl; go_wp2; exact OpPost.some _ rfl rfl (Ext.refl _) rfl
      with_reducible apply From.eq
      · intro w' hx; have cax := hx.cell ca; have cbx := hx.cell cb; (try dsimp only [List.nil_append, List.cons_append]); dsimp only [DepsV, fat, eqF]; rintro _ rfl; go_wp2; exact OpPost.some _ rfl rfl (Ext.refl _) rfl
      with_reducible apply From.eq
      · intro w' hx; have cax := hx.cell ca; have cbx := hx.cell cb; (try dsimp only [List.nil_append, List.cons_append]); dsimp only [DepsV, fat, eqF]; rintro _ rfl _ rfl _ rfl; go_wp2_with (go_at_call 31; refine (RAdd_c _ _ _ _).mono ?_; rintro e w2 ⟨rfl, hb2⟩); exact OpPost.some _ rfl rfl hb2 rfl
      -- 11: t62
      refine From.step (OneF (fadd p x y)) OneF.mono ?_ ?_
      · intro w' hx; have cax := hx.cell ca; have cbx := hx.cell cb; (try dsimp only [List.nil_append, List.cons_append]); dsimp only [DepsV, fat, eqF]; rintro _ rfl; go_wp2; exact OpPost.some _ rfl rfl ((Ext.refl _).alloc _) ⟨_, rfl, by simp⟩
      with_reducible refine From.fin ?_
      intro w' hx
      (try dsimp only [List.nil_append, List.cons_append]); dsimp only [EndV, eqF]; rintro _ rfl _ rfl _ rfl _ rfl _ rfl _ rfl _ rfl _ rfl _ rfl _ rfl _ rfl v11 h11; simp only [Act.put, List.setIfInBounds_toArray, List.set_cons_zero, List.set_cons_succ]
      obtain ⟨g1, rfl, hg1⟩ := h11
      obtain ⟨wa, rfl⟩ : ∃ wa : World, wa = w' := ⟨_, rfl⟩
      go_wp2_with (at_builtin; refine wpList_app1 rfl (.tmp 51) (.tmp 62) rfl (w5.alloc (.cells #[.int .u64 p] 29)).heap.size _ _ rfl (HO.out.grow hx) g1 (fadd p x y) 1 rfl hg1 (by rw [tab_len]; omega) (HX.out.trans hx).size ?_; intro v' w3 hown3 hx3 _)
      go_roundw
      case rel =>
        refine ⟨k + 1, by go_num, by omega, ?_, hx3 _ (HX.out.trans hx) (Nat.le_refl _)⟩
        rw [Es.out]; exact hown3
      case measure => simp [intOf]; omega
    · obtain rfl : k = l.length := by omega
      obtain ⟨aS, cS, hvS, _, _, rS⟩ := HO.out.form
      rw [tab_len] at hvS
      subst hvS
      have RS := Lib.hid rS
      have q1 : ((l.length : Int) != (l.length : Int)) = false := by simp
      clear rS HO hlt
      go_wp2_with fail
      refine (H1.out _ (HA.out.ext X2)).mono ?_; rintro e w5 ⟨v, rfl, o5, x5⟩
      obtain ⟨a5, c5, rfl, _, _, r5⟩ := o5.form
      rw [HL.out.1]
      replace hc := x5.cell hc
      replace X2 := X2.trans x5
      clear o5
      go_wp2_with fail
      refine (H2.out _ (HB.out.ext X2)).mono ?_; rintro e w6 ⟨v, rfl, o6, x6⟩
      obtain ⟨a6, c6, rfl, _, _, r6⟩ := o6.form
      rw [HL.out.2.1]
      replace hc := x6.cell hc
      replace X2 := X2.trans x6
      clear o6
      go_wp2_with fail
      refine (H3.out _ _ _ ((RS.out.ext x5).ext x6)).mono ?_; rintro e w7 ⟨v, rfl, o7, x7⟩
      obtain ⟨a7, c7, rfl, _, _, r7⟩ := o7.form
      rw [HL.out.2.2]
      replace X2 := X2.trans x7
      have R5 := Lib.hid ((r5.ext x6).ext x7)
      have R6 := Lib.hid (r6.ext x7)
      have R7 := Lib.hid r7
      clear o7 r5 r6 r7 hc
      go_wp2_with fail
      go_loopw [116] (TIRel l.length w7) (fun i _ => l.length - (intOf i).toNat)
      case atStart => exact ⟨0, rfl, Nat.zero_le _, Ext.refl _⟩
      case round =>
        obtain ⟨k, rfl, hk2, hext⟩ := hrel
        by_cases hlt : k < l.length
        · obtain ⟨g5, o5, h5, hcell5⟩ := R5.out.at (by rw [HL.out.1]; omega)
          obtain ⟨g6, o6, h6, hcell6⟩ := R6.out.at (by rw [HL.out.2.1]; omega)
          obtain ⟨g7, o7, h7, hcell7⟩ := R7.out.at (by rw [HL.out.2.2]; omega)
          subst h5 h6 h7
          have k5 := hext.cell (hcell5 k (by rw [HL.out.1]; exact hlt))
          have k6 := hext.cell (hcell6 k (by rw [HL.out.2.1]; exact hlt))
          have k7 := hext.cell (hcell7 k (by rw [HL.out.2.2]; exact hlt))
          have Ev := HV.out k hlt
          obtain ⟨x, hx0⟩ : ∃ x, x = Y1.getD k 0 := ⟨_, rfl⟩
          obtain ⟨y, hy0⟩ : ∃ y, y = Y2.getD k 0 := ⟨_, rfl⟩
          obtain ⟨z, hz0⟩ : ∃ z, z = Z.getD k 0 := ⟨_, rfl⟩
          rw [← hx0] at k5 Ev
          rw [← hy0] at k6 Ev
          rw [← hz0] at k7 Ev
          have t5 : ((z : Int) != ((fadd p x y : Nat) : Int)) = false := by rw [Ev]; simp
          clear hcell5 hcell6 hcell7 hx0 hy0 hz0 Ev
          go_wp2_with fail
          refine region_facts [[], [], [(0, 119), (1, 120)], [(2, 121)], [], [], [], [(5, 124), (6, 125)], [(7, 126)], [], [], [(9, 128), (10, 129)], [(11, 130)], [(4, 123), (8, 127), (12, 131)], [(3, 122), (13, 132)]] [some 119, some 120, some 121, some 122, some 123, some 124, some 125, some 126, some 127, some 128, some 129, some 130, some 131, some 132, some 133] (by kernel_rfl) (by kernel_rfl) ?_
          with_reducible apply From.eq
          · intro w' hx; have k5x := hx.cell k5; have k6x := hx.cell k6; have k7x := hx.cell k7; (try dsimp only [List.nil_append, List.cons_append]); dsimp only [DepsV, fat, eqF]; go_wp2; exact OpPost.some _ rfl rfl (Ext.refl _) rfl
          with_reducible apply From.eq
          · intro w' hx; have k5x := hx.cell k5; have k6x := hx.cell k6; have k7x := hx.cell k7; (try dsimp only [List.nil_append, List.cons_append]); dsimp only [DepsV, fat, eqF]; go_wp2; exact OpPost.some _ rfl rfl (Ext.refl _) rfl
          with_reducible apply From.eq
          · intro w' hx; have k5x := hx.cell k5; have k6x := hx.cell k6; have k7x := hx.cell k7; (try dsimp only [List.nil_append, List.cons_append]); dsimp only [DepsV, fat, eqF]; rintro _ rfl _ rfl; go_wp2; exact OpPost.some _ rfl rfl (Ext.refl _) rfl
          with_reducible apply From.eq
          · intro w' hx; have k5x := hx.cell k5; have k6x := hx.cell k6; have k7x := hx.cell k7; (try dsimp only [List.nil_append, List.cons_append]); dsimp only [DepsV, fat, eqF]; rintro _ rfl; go_wp2; exact OpPost.some _ rfl rfl (Ext.refl _) rfl
          with_reducible apply From.eq
          · intro w' hx; have k5x := hx.cell k5; have k6x := hx.cell k6; have k7x := hx.cell k7; (try dsimp only [List.nil_append, List.cons_append]); dsimp only [DepsV, fat, eqF]; go_wp2; exact OpPost.some _ rfl rfl (Ext.refl _) rfl
          with_reducible apply From.eq
          · intro w' hx; have k5x := hx.cell k5; have k6x := hx.cell k6; have k7x := hx.cell k7; (try dsimp only [List.nil_append, List.cons_append]); dsimp only [DepsV, fat, eqF]; go_wp2; exact OpPost.some _ rfl rfl (Ext.refl _) rfl
          with_reducible apply From.eq
          · intro w' hx; have k5x := hx.cell k5; have k6x := hx.cell k6; have k7x := hx.cell k7; (try dsimp only [List.nil_append, List.cons_append]); dsimp only [DepsV, fat, eqF]; go_wp2; exact OpPost.some _ rfl rfl (Ext.refl _) rfl
          with_reducible apply From.eq
          · intro w' hx; have k5x := hx.cell k5; have k6x := hx.cell k6; have k7x := hx.cell k7; (try dsimp only [List.nil_append, List.cons_append]); dsimp only [DepsV, fat, eqF]; rintro _ rfl _ rfl; go_wp2; exact OpPost.some _ rfl rfl (Ext.refl _) rfl
          with_reducible apply From.eq
          · intro w' hx; have k5x := hx.cell k5; have k6x := hx.cell k6; have k7x := hx.cell k7; (try dsimp only [List.nil_append, List.cons_append]); dsimp only [DepsV, fat, eqF]; rintro _ rfl; go_wp2; exact OpPost.some _ rfl rfl (Ext.refl _) rfl
          with_reducible apply From.eq
          · intro w' hx; have k5x := hx.cell k5; have k6x := hx.cell k6; have k7x := hx.cell k7; (try dsimp only [List.nil_append, List.cons_append]); dsimp only [DepsV, fat, eqF]; go_wp2; exact OpPost.some _ rfl rfl (Ext.refl _) rfl
          with_reducible apply From.eq
          · intro w' hx; have k5x := hx.cell k5; have k6x := hx.cell k6; have k7x := hx.cell k7; (try dsimp only [List.nil_append, List.cons_append]); dsimp only [DepsV, fat, eqF]; go_wp2; exact OpPost.some _ rfl rfl (Ext.refl _) rfl
          with_reducible apply From.eq
          · intro w' hx; have k5x := hx.cell k5; have k6x := hx.cell k6; have k7x := hx.cell k7; (try dsimp only [List.nil_append, List.cons_append]); dsimp only [DepsV, fat, eqF]; rintro _ rfl _ rfl; go_wp2; exact OpPost.some _ rfl rfl (Ext.refl _) rfl
          with_reducible apply From.eq
          · intro w' hx; have k5x := hx.cell k5; have k6x := hx.cell k6; have k7x := hx.cell k7; (try dsimp only [List.nil_append, List.cons_append]); dsimp only [DepsV, fat, eqF]; rintro _ rfl; go_wp2; exact OpPost.some _ rfl rfl (Ext.refl _) rfl
          with_reducible apply From.eq
          · intro w' hx; have k5x := hx.cell k5; have k6x := hx.cell k6; have k7x := hx.cell k7; (try dsimp only [List.nil_append, List.cons_append]); dsimp only [DepsV, fat, eqF]; rintro _ rfl _ rfl _ rfl; go_wp2_with (go_at_call 31; refine (RAdd_c _ _ _ _).mono ?_; rintro e w2 ⟨rfl, hb2⟩); exact OpPost.some _ rfl rfl hb2 rfl
          with_reducible apply From.eq
          · intro w' hx; have k5x := hx.cell k5; have k6x := hx.cell k6; have k7x := hx.cell k7; (try dsimp only [List.nil_append, List.cons_append]); dsimp only [DepsV, fat, eqF]; rintro _ rfl _ rfl; go_wp2; exact OpPost.some _ rfl rfl (Ext.refl _) rfl
          with_reducible refine From.fin ?_
          intro w' hx
          (try dsimp only [List.nil_append, List.cons_append]); dsimp only [EndV, eqF]; rintro _ rfl _ rfl _ rfl _ rfl _ rfl _ rfl _ rfl _ rfl _ rfl _ rfl _ rfl _ rfl _ rfl _ rfl _ rfl; simp only [Act.put, List.setIfInBounds_toArray, List.set_cons_zero, List.set_cons_succ]
          go_wp2
          go_roundw
          case rel => exact ⟨k + 1, by go_num, by omega, hext.trans hx⟩
          case measure => simp [intOf]; omega
        · obtain rfl : k = l.length := by omega
          go_wp2
          go_ret
          exact ⟨rfl, X2.trans hext⟩

set_option maxRecDepth 100000 in
set_option maxHeartbeats 4000000 in
theorem TransformProduct_w (p : Nat) (l : List Nat) (s : Nat) (n : Int) (a : Option Addr) (c : Nat) (m : List Nat) (b : Option Addr) (d : Nat) (w : World) (ha : Rd w a l) (hn : n ≤ 9223372036854775807) (hn2 : -9223372036854775808 ≤ n) (hb : Rd w b m) :
    Calls Try.prog 8 #[.agg #[.int .u64 p, .slice a l.length c, .int .u64 s, .int .i64 n], .slice b m.length d] w fun e w' => e = .returned (.bool true) ∧ Ext w w' := by
  have HA := Lib.hid ha
  have HB := Lib.hid hb
  clear ha hb
  have h0 : (w.alloc (.cells #[.int .u64 p, .slice a l.length c, .int .u64 s, .int .i64 n] 38)).cell? ⟨w.heap.size, 0, none⟩ = some (.int .u64 p) := by simp
  have h1 : (w.alloc (.cells #[.int .u64 p, .slice a l.length c, .int .u64 s, .int .i64 n] 38)).cell? ⟨w.heap.size, 1, none⟩ = some (.slice a l.length c) := by simp
  have h2 : (w.alloc (.cells #[.int .u64 p, .slice a l.length c, .int .u64 s, .int .i64 n] 38)).cell? ⟨w.heap.size, 2, none⟩ = some (.int .u64 s) := by simp
  have h3 : (w.alloc (.cells #[.int .u64 p, .slice a l.length c, .int .u64 s, .int .i64 n] 38)).cell? ⟨w.heap.size, 3, none⟩ = some (.int .i64 n) := by simp
  have SC := Lib.hid (fun w' => small_c p s n l a c w')
  by_cases hf : l.length ≤ 80 ∧ (n ≤ 64 ∨ 4096 < n)
  case neg =>
    have F : Hid (decide (l.length ≤ 80 ∧ (n ≤ 64 ∨ 4096 < n)) = false) := Lib.hid (decide_eq_false hf)
    clear hf
    go_enter Try.func8, Try.ntmps8
    go_wp2_with fail
    refine (awake4_c _).mono ?_; rintro e w1 ⟨rfl, x0⟩
    replace h0 := x0.cell h0
    replace h1 := x0.cell h1
    replace h2 := x0.cell h2
    replace h3 := x0.cell h3
    have X := x0.box
    clear x0
    go_wp2_with fail
    refine (SC.out _).mono ?_; rintro e w2 ⟨rfl, x3⟩
    replace h0 := x3.cell h0
    replace h1 := x3.cell h1
    replace h2 := x3.cell h2
    replace h3 := x3.cell h3
    replace X := X.trans x3
    clear x3
    rw [F.out]
    go_wp2_with fail
    refine (awake4_c _).mono ?_; rintro e w4 ⟨rfl, x5⟩
    replace h0 := x5.cell h0
    replace h1 := x5.cell h1
    replace h2 := x5.cell h2
    replace h3 := x5.cell h3
    replace X := X.trans x5
    clear x5
    go_wp2_with fail
    go_ret
    exact ⟨rfl, X⟩
  have F : Hid (decide (l.length ≤ 80 ∧ (n ≤ 64 ∨ 4096 < n)) = true) := Lib.hid (decide_eq_true hf)
  have hl80 : l.length ≤ 80 := hf.1
  clear hf
  by_cases hf1 : l.length ≤ 30
  case neg =>
    have hd0 : decide ((30 : Int) < l.length) = true := decide_eq_true (by omega)
    clear hf1
    go_enter Try.func8, Try.ntmps8
    go_wp2_with fail
    refine (awake4_c _).mono ?_; rintro e w1 ⟨rfl, x0⟩
    replace h0 := x0.cell h0
    replace h1 := x0.cell h1
    replace h2 := x0.cell h2
    replace h3 := x0.cell h3
    have X := x0.box
    clear x0
    go_wp2_with fail
    refine (SC.out _).mono ?_; rintro e w2 ⟨rfl, x3⟩
    replace h0 := x3.cell h0
    replace h1 := x3.cell h1
    replace h2 := x3.cell h2
    replace h3 := x3.cell h3
    replace X := X.trans x3
    clear x3
    rw [F.out]
    go_wp2_with fail
    refine (awake4_c _).mono ?_; rintro e w4 ⟨rfl, x5⟩
    replace h0 := x5.cell h0
    replace h1 := x5.cell h1
    replace h2 := x5.cell h2
    replace h3 := x5.cell h3
    replace X := X.trans x5
    clear x5
    go_wp2_with fail
    go_ret
    exact ⟨rfl, X⟩
  have hd0 : decide ((30 : Int) < l.length) = false := decide_eq_false (by omega)
  by_cases hf2 : m.length ≤ 30
  case neg =>
    have hd1 : decide ((30 : Int) < m.length) = true := decide_eq_true (by omega)
    clear hf2
    go_enter Try.func8, Try.ntmps8
    go_wp2_with fail
    refine (awake4_c _).mono ?_; rintro e w1 ⟨rfl, x0⟩
    replace h0 := x0.cell h0
    replace h1 := x0.cell h1
    replace h2 := x0.cell h2
    replace h3 := x0.cell h3
    have X := x0.box
    clear x0
    go_wp2_with fail
    refine (SC.out _).mono ?_; rintro e w2 ⟨rfl, x3⟩
    replace h0 := x3.cell h0
    replace h1 := x3.cell h1
    replace h2 := x3.cell h2
    replace h3 := x3.cell h3
    replace X := X.trans x3
    clear x3
    rw [F.out]
    go_wp2_with fail
    refine (awake4_c _).mono ?_; rintro e w4 ⟨rfl, x5⟩
    replace h0 := x5.cell h0
    replace h1 := x5.cell h1
    replace h2 := x5.cell h2
    replace h3 := x5.cell h3
    replace X := X.trans x5
    clear x5
    go_wp2_with fail
    go_ret
    exact ⟨rfl, X⟩
  have hd1 : decide ((30 : Int) < m.length) = false := decide_eq_false (by omega)
  have MC := fun w' (h : Rd w' a l) (h2 : Rd w' b m) => Multiply_c p l m a b c d w' h h2 (by omega)
  obtain ⟨⟨M, e1⟩, hM⟩ : ∃ x, x = tM p l m := ⟨_, rfl⟩
  rw [← hM] at MC
  have HMC := Lib.hid MC
  by_cases he : e1 = 0
  case neg =>
    have t3 : (e1 != 0) = true := bne_iff_ne.2 he
    clear MC hM he
    go_enter Try.func8, Try.ntmps8
    go_wp2_with fail
    refine (awake4_c _).mono ?_; rintro e w1 ⟨rfl, x0⟩
    replace h0 := x0.cell h0
    replace h1 := x0.cell h1
    replace h2 := x0.cell h2
    replace h3 := x0.cell h3
    have X := x0.box
    clear x0
    go_wp2_with fail
    refine (SC.out _).mono ?_; rintro e w2 ⟨rfl, x3⟩
    replace h0 := x3.cell h0
    replace h1 := x3.cell h1
    replace h2 := x3.cell h2
    replace h3 := x3.cell h3
    replace X := X.trans x3
    clear x3
    rw [F.out]
    have h0b := ((Ext.refl w2).alloc (.cells #[.int .u64 p] 29)).cell h0
    have h1b := ((Ext.refl w2).alloc (.cells #[.int .u64 p] 29)).cell h1
    have h2b := ((Ext.refl w2).alloc (.cells #[.int .u64 p] 29)).cell h2
    have h3b := ((Ext.refl w2).alloc (.cells #[.int .u64 p] 29)).cell h3
    have ha := HA.out.ext X
    have hb := HB.out.ext X
    go_wp2_with fail
    refine (HMC.out _ (ha.ext ((Ext.refl _).alloc _)) (hb.ext ((Ext.refl _).alloc _))).mono ?_; rintro e w6 ⟨v, rfl, o5, x4⟩
    obtain ⟨r1_a, r1_c, rfl, _, _, r1⟩ := o5.form
    have hc := x4.boxCell
    replace h0 := x4.box.cell h0
    replace h1 := x4.box.cell h1
    replace h2 := x4.box.cell h2
    replace h3 := x4.box.cell h3
    replace ha := ha.ext x4.box
    replace hb := hb.ext x4.box
    replace X := X.trans x4.box
    clear x4 o5 h0b h1b h2b h3b
    go_wp2_with fail
    go_ret
    exact ⟨rfl, X⟩
  subst he
  obtain ⟨lM, hP⟩ := prod_facts hM.symm hf1 hf2
  obtain ⟨e2, Y1, Y2, Z, f1, f2, f3, l1, l2, l3, hval⟩ := hP s n
  have C1 := fun w' (h : Rd w' a l) => Evaluate_c p l s n a c w' h (by omega) hn hn2
  have C2 := fun w' (h : Rd w' b m) => Evaluate_c p m s n b d w' h (by omega) hn hn2
  have C3 := fun w' a' c' (h : Rd w' a' M) => Evaluate_c p M s n a' c' w' h (by omega) hn hn2
  rw [Q.tE_same, f1] at C1
  rw [Q.tE_same, f2] at C2
  rw [Q.tE_same, f3] at C3
  have H1 := Lib.hid C1
  have H2 := Lib.hid C2
  have H3 := Lib.hid C3
  have HL := Lib.hid (And.intro l1 l2)
  have HV := Lib.hid hval
  have t4 : (e2 != e2) = false := by simp
  have q1 : ((Z.length : Int) != (Z.length : Int)) = false := by simp
  clear MC hM hP f1 f2 f3 C1 C2 C3 l1 l2 hval
  go_enter Try.func8, Try.ntmps8
  go_wp2_with fail
  refine (awake4_c _).mono ?_; rintro e w1 ⟨rfl, x0⟩
  replace h0 := x0.cell h0
  replace h1 := x0.cell h1
  replace h2 := x0.cell h2
  replace h3 := x0.cell h3
  have X := x0.box
  clear x0
  go_wp2_with fail
  refine (SC.out _).mono ?_; rintro e w2 ⟨rfl, x3⟩
  replace h0 := x3.cell h0
  replace h1 := x3.cell h1
  replace h2 := x3.cell h2
  replace h3 := x3.cell h3
  replace X := X.trans x3
  clear x3
  rw [F.out]
  have h0b := ((Ext.refl w2).alloc (.cells #[.int .u64 p] 29)).cell h0
  have h1b := ((Ext.refl w2).alloc (.cells #[.int .u64 p] 29)).cell h1
  have h2b := ((Ext.refl w2).alloc (.cells #[.int .u64 p] 29)).cell h2
  have h3b := ((Ext.refl w2).alloc (.cells #[.int .u64 p] 29)).cell h3
  have ha := HA.out.ext X
  have hb := HB.out.ext X
  go_wp2_with fail
  refine (HMC.out _ (ha.ext ((Ext.refl _).alloc _)) (hb.ext ((Ext.refl _).alloc _))).mono ?_; rintro e w6 ⟨v, rfl, o5, x4⟩
  obtain ⟨r1_a, r1_c, rfl, _, _, r1⟩ := o5.form
  have hc := x4.boxCell
  replace h0 := x4.box.cell h0
  replace h1 := x4.box.cell h1
  replace h2 := x4.box.cell h2
  replace h3 := x4.box.cell h3
  replace ha := ha.ext x4.box
  replace hb := hb.ext x4.box
  replace X := X.trans x4.box
  clear x4 o5 h0b h1b h2b h3b
  go_wp2_with fail
  refine (H1.out _ ha).mono ?_; rintro e w7 ⟨v, rfl, o9, x8⟩
  obtain ⟨r2_a, r2_c, rfl, _, _, r2⟩ := o9.form
  replace h0 := x8.cell h0
  replace h1 := x8.cell h1
  replace h2 := x8.cell h2
  replace h3 := x8.cell h3
  replace ha := ha.ext x8
  replace hb := hb.ext x8
  replace r1 := r1.ext x8
  replace hc := x8.cell hc
  replace X := X.trans x8
  clear x8 o9
  rw [HL.out.1]
  go_wp2_with fail
  refine (H2.out _ hb).mono ?_; rintro e w10 ⟨v, rfl, o12, x11⟩
  obtain ⟨r3_a, r3_c, rfl, _, _, r3⟩ := o12.form
  replace h0 := x11.cell h0
  replace h1 := x11.cell h1
  replace h2 := x11.cell h2
  replace h3 := x11.cell h3
  replace ha := ha.ext x11
  replace hb := hb.ext x11
  replace r1 := r1.ext x11
  replace hc := x11.cell hc
  replace r2 := r2.ext x11
  replace X := X.trans x11
  clear x11 o12
  rw [HL.out.2]
  go_wp2_with fail
  refine (H3.out _ _ _ r1).mono ?_; rintro e w13 ⟨v, rfl, o15, x14⟩
  obtain ⟨r4_a, r4_c, rfl, _, _, r4⟩ := o15.form
  replace h0 := x14.cell h0
  replace h1 := x14.cell h1
  replace h2 := x14.cell h2
  replace h3 := x14.cell h3
  replace ha := ha.ext x14
  replace hb := hb.ext x14
  replace r1 := r1.ext x14
  replace hc := x14.cell hc
  replace r2 := r2.ext x14
  replace r3 := r3.ext x14
  replace X := X.trans x14
  clear x14 o15
  have R2 := Lib.hid r2
  have R3 := Lib.hid r3
  have R4 := Lib.hid r4
  clear r1 r2 r3 r4 hc h1 h2 h3 ha hb
  go_wp2_with fail
  go_loopw [102] (TIRel Z.length w13) (fun i _ => Z.length - (intOf i).toNat)
  case atStart => exact ⟨0, rfl, Nat.zero_le _, Ext.refl _⟩
  case round =>
    obtain ⟨k, rfl, hk2, hext⟩ := hrel
    have hcp := hext.cell h0
    by_cases hlt : k < Z.length
    · obtain ⟨g5, o5, h5, hcell5⟩ := R2.out.at (by rw [HL.out.1]; omega)
      obtain ⟨g6, o6, h6, hcell6⟩ := R3.out.at (by rw [HL.out.2]; omega)
      obtain ⟨g7, o7, h7, hcell7⟩ := R4.out.at (by omega)
      subst h5 h6 h7
      have k5 := hext.cell (hcell5 k (by rw [HL.out.1]; exact hlt))
      have k6 := hext.cell (hcell6 k (by rw [HL.out.2]; exact hlt))
      have k7 := hext.cell (hcell7 k hlt)
      have Ev := HV.out k hlt
      obtain ⟨x, hx0⟩ : ∃ x, x = Y1.getD k 0 := ⟨_, rfl⟩
      obtain ⟨y, hy0⟩ : ∃ y, y = Y2.getD k 0 := ⟨_, rfl⟩
      obtain ⟨z, hz0⟩ : ∃ z, z = Z.getD k 0 := ⟨_, rfl⟩
      rw [← hx0] at k5 Ev
      rw [← hy0] at k6 Ev
      rw [← hz0] at k7 Ev
      have t5 : ((z : Int) != ((fmul p x y : Nat) : Int)) = false := by rw [Ev]; simp
      clear hcell5 hcell6 hcell7 hx0 hy0 hz0 Ev
      go_wp2_with fail
      refine region_facts [[], [], [(0, 105), (1, 106)], [(2, 107)], [], [(4, 109)], [], [], [(6, 111), (7, 112)], [(8, 113)], [], [], [(10, 115), (11, 116)], [(12, 117)], [(5, 110), (9, 114), (13, 118)], [(3, 108), (14, 119)]] [some 105, some 106, some 107, some 108, some 109, some 110, some 111, some 112, some 113, some 114, some 115, some 116, some 117, some 118, some 119, some 120] (by kernel_rfl) (by kernel_rfl) ?_
      with_reducible apply From.eq
      · intro w' hx; have hcpx := hx.cell hcp; have k5x := hx.cell k5; have k6x := hx.cell k6; have k7x := hx.cell k7; (try dsimp only [List.nil_append, List.cons_append]); dsimp only [DepsV, fat, eqF]; go_wp2; exact OpPost.some _ rfl rfl (Ext.refl _) rfl
      with_reducible apply From.eq
      · intro w' hx; have hcpx := hx.cell hcp; have k5x := hx.cell k5; have k6x := hx.cell k6; have k7x := hx.cell k7; (try dsimp only [List.nil_append, List.cons_append]); dsimp only [DepsV, fat, eqF]; go_wp2; exact OpPost.some _ rfl rfl (Ext.refl _) rfl
      with_reducible apply From.eq
      · intro w' hx; have hcpx := hx.cell hcp; have k5x := hx.cell k5; have k6x := hx.cell k6; have k7x := hx.cell k7; (try dsimp only [List.nil_append, List.cons_append]); dsimp only [DepsV, fat, eqF]; rintro _ rfl _ rfl; go_wp2; exact OpPost.some _ rfl rfl (Ext.refl _) rfl
      with_reducible apply From.eq
      · intro w' hx; have hcpx := hx.cell hcp; have k5x := hx.cell k5; have k6x := hx.cell k6; have k7x := hx.cell k7; (try dsimp only [List.nil_append, List.cons_append]); dsimp only [DepsV, fat, eqF]; rintro _ rfl; go_wp2; exact OpPost.some _ rfl rfl (Ext.refl _) rfl
      with_reducible apply From.eq
      · intro w' hx; have hcpx := hx.cell hcp; have k5x := hx.cell k5; have k6x := hx.cell k6; have k7x := hx.cell k7; (try dsimp only [List.nil_append, List.cons_append]); dsimp only [DepsV, fat, eqF]; go_wp2; exact OpPost.some _ rfl rfl (Ext.refl _) rfl
      with_reducible apply From.eq
      · intro w' hx; have hcpx := hx.cell hcp; have k5x := hx.cell k5; have k6x := hx.cell k6; have k7x := hx.cell k7; (try dsimp only [List.nil_append, List.cons_append]); dsimp only [DepsV, fat, eqF]; rintro _ rfl; go_wp2; exact OpPost.some _ rfl rfl (Ext.refl _) rfl
      with_reducible apply From.eq
      · intro w' hx; have hcpx := hx.cell hcp; have k5x := hx.cell k5; have k6x := hx.cell k6; have k7x := hx.cell k7; (try dsimp only [List.nil_append, List.cons_append]); dsimp only [DepsV, fat, eqF]; go_wp2; exact OpPost.some _ rfl rfl (Ext.refl _) rfl
      with_reducible apply From.eq
      · intro w' hx; have hcpx := hx.cell hcp; have k5x := hx.cell k5; have k6x := hx.cell k6; have k7x := hx.cell k7; (try dsimp only [List.nil_append, List.cons_append]); dsimp only [DepsV, fat, eqF]; go_wp2; exact OpPost.some _ rfl rfl (Ext.refl _) rfl
      with_reducible apply From.eq
      · intro w' hx; have hcpx := hx.cell hcp; have k5x := hx.cell k5; have k6x := hx.cell k6; have k7x := hx.cell k7; (try dsimp only [List.nil_append, List.cons_append]); dsimp only [DepsV, fat, eqF]; rintro _ rfl _ rfl; go_wp2; exact OpPost.some _ rfl rfl (Ext.refl _) rfl
      with_reducible apply From.eq
      · intro w' hx; have hcpx := hx.cell hcp; have k5x := hx.cell k5; have k6x := hx.cell k6; have k7x := hx.cell k7; (try dsimp only [List.nil_append, List.cons_append]); dsimp only [DepsV, fat, eqF]; rintro _ rfl; go_wp2; exact OpPost.some _ rfl rfl (Ext.refl _) rfl
      with_reducible apply From.eq
      · intro w' hx; have hcpx := hx.cell hcp; have k5x := hx.cell k5; have k6x := hx.cell k6; have k7x := hx.cell k7; (try dsimp only [List.nil_append, List.cons_append]); dsimp only [DepsV, fat, eqF]; go_wp2; exact OpPost.some _ rfl rfl (Ext.refl _) rfl
      with_reducible apply From.eq
      · intro w' hx; have hcpx := hx.cell hcp; have k5x := hx.cell k5; have k6x := hx.cell k6; have k7x := hx.cell k7; (try dsimp only [List.nil_append, List.cons_append]); dsimp only [DepsV, fat, eqF]; go_wp2; exact OpPost.some _ rfl rfl (Ext.refl _) rfl
      with_reducible apply From.eq
      · intro w' hx; have hcpx := hx.cell hcp; have k5x := hx.cell k5; have k6x := hx.cell k6; have k7x := hx.cell k7; (try dsimp only [List.nil_append, List.cons_append]); dsimp only [DepsV, fat, eqF]; rintro _ rfl _ rfl; go_wp2; exact OpPost.some _ rfl rfl (Ext.refl _) rfl
      with_reducible apply From.eq
      · intro w' hx; have hcpx := hx.cell hcp; have k5x := hx.cell k5; have k6x := hx.cell k6; have k7x := hx.cell k7; (try dsimp only [List.nil_append, List.cons_append]); dsimp only [DepsV, fat, eqF]; rintro _ rfl; go_wp2; exact OpPost.some _ rfl rfl (Ext.refl _) rfl
      with_reducible apply From.eq
      · intro w' hx; have hcpx := hx.cell hcp; have k5x := hx.cell k5; have k6x := hx.cell k6; have k7x := hx.cell k7; (try dsimp only [List.nil_append, List.cons_append]); dsimp only [DepsV, fat, eqF]; rintro _ rfl _ rfl _ rfl; go_wp2_with (go_at_call 32; refine (RMul_c _ _ _ _).mono ?_; rintro e w2 ⟨rfl, hb2⟩); exact OpPost.some _ rfl rfl hb2 rfl
      with_reducible apply From.eq
      · intro w' hx; have hcpx := hx.cell hcp; have k5x := hx.cell k5; have k6x := hx.cell k6; have k7x := hx.cell k7; (try dsimp only [List.nil_append, List.cons_append]); dsimp only [DepsV, fat, eqF]; rintro _ rfl _ rfl; go_wp2; exact OpPost.some _ rfl rfl (Ext.refl _) rfl
      with_reducible refine From.fin ?_
      intro w' hx
      (try dsimp only [List.nil_append, List.cons_append]); dsimp only [EndV, eqF]; rintro _ rfl _ rfl _ rfl _ rfl _ rfl _ rfl _ rfl _ rfl _ rfl _ rfl _ rfl _ rfl _ rfl _ rfl _ rfl _ rfl; simp only [Act.put, List.setIfInBounds_toArray, List.set_cons_zero, List.set_cons_succ]
      go_wp2
      go_roundw
      case rel => exact ⟨k + 1, by go_num, by omega, hext.trans hx⟩
      case measure => simp [intOf]; omega
    · obtain rfl : k = Z.length := by omega
      go_wp2
      go_ret
      exact ⟨rfl, X.trans hext⟩
end Go.Proofs.Ytcnbinjoeilfgaa
