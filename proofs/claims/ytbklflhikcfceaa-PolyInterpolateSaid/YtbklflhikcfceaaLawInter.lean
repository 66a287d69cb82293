/- Walks of laws of layer 3. -/
import Derived.Test.YtbklflhikcfceaaLaw
import Derived.Test.YtbklflhikcfceaaRef7
namespace Go.Proofs.Ytbklflhikcfceaa
open Go.RowKit

def PIRel (n : Nat) (w0 : World) (s : Value) (wr : World) : Prop := ∃ k : Nat, s = .int .i64 k ∧ k ≤ n ∧ Ext w0 wr

set_option maxRecDepth 100000 in
set_option maxHeartbeats 2000000 in
theorem PolyInterpolate_w (p : Nat) (l m : List Nat) (a b : Option Addr) (c d : Nat) (w : World) (ha : Rd w a l) (hb : Rd w b m) (hlc : l.length ≤ c) :
    Calls Try.prog 4 #[.int .u64 p, .slice a l.length c, .slice b m.length d] w fun e w' => e = .returned (.bool true) ∧ Ext w w' := by
  have HA := Lib.hid ha
  have HB := Lib.hid hb
  clear ha hb
  by_cases hf0 : l.length ≤ 12
  case neg =>
    have hd0 : decide ((12 : Int) < l.length) = true := decide_eq_true (by omega)
    clear hf0
    go_enter Try.func4, Try.ntmps4
    go_wp2_with fail
    refine (awake_c _).mono ?_; rintro e w1 ⟨rfl, x2⟩
    have X := x2
    clear x2
    go_wp2_with fail
    refine (awake_c _).mono ?_; rintro e w3 ⟨rfl, x4⟩
    replace X := X.trans x4
    clear x4
    go_wp2_with fail
    go_ret
    exact ⟨rfl, X⟩
  have hd0 : decide ((12 : Int) < l.length) = false := decide_eq_false (by omega)
  by_cases hf1 : m.length ≤ 12
  case neg =>
    have hd1 : decide ((12 : Int) < m.length) = true := decide_eq_true (by omega)
    clear hf1
    go_enter Try.func4, Try.ntmps4
    go_wp2_with fail
    refine (awake_c _).mono ?_; rintro e w1 ⟨rfl, x2⟩
    have X := x2
    clear x2
    go_wp2_with fail
    refine (awake_c _).mono ?_; rintro e w3 ⟨rfl, x4⟩
    replace X := X.trans x4
    clear x4
    go_wp2_with fail
    go_ret
    exact ⟨rfl, X⟩
  have hd1 : decide ((12 : Int) < m.length) = false := decide_eq_false (by omega)
  cases hv : vld p
  case false =>
    have V := Lib.hid hv
    clear hv
    go_enter Try.func4, Try.ntmps4
    go_wp2_with fail
    refine (awake_c _).mono ?_; rintro e w1 ⟨rfl, x2⟩
    have X := x2
    clear x2
    have ha := HA.out.ext X
    have hb := HB.out.ext X
    go_wp2_with fail
    refine (Interp_inv p l m a b c d _ V.out).mono ?_; rintro e w21 ⟨v, rfl, o21, x21⟩
    obtain ⟨a1, c1, rfl, _, r1⟩ := o21.formN 0 rfl
    replace ha := ha.ext x21.box
    replace hb := hb.ext x21.box
    replace X := X.trans x21.box
    clear o21 x21
    go_wp2_with fail
    refine (RValid_c _ _).mono ?_; rintro e w3 ⟨rfl, x4⟩
    replace ha := ha.ext x4
    replace hb := hb.ext x4
    replace r1 := r1.ext x4
    replace X := X.trans x4
    clear x4
    rw [V.out]
    go_wp2_with fail
    go_ret
    exact ⟨rfl, X⟩
  have V := Lib.hid hv
  clear hv
  by_cases hlen : l.length = m.length
  case neg =>
    have t1 : ((l.length : Int) != (m.length : Int)) = true := bne_iff_ne.2 (by omega)
    have HL := Lib.hid hlen
    clear hlen
    go_enter Try.func4, Try.ntmps4
    go_wp2_with fail
    refine (awake_c _).mono ?_; rintro e w1 ⟨rfl, x2⟩
    have X := x2
    clear x2
    have ha := HA.out.ext X
    have hb := HB.out.ext X
    go_wp2_with fail
    refine (Interp_len p l m a b c d _ V.out HL.out (by omega) (by omega)).mono ?_; rintro e w21 ⟨v, rfl, o21, x21⟩
    obtain ⟨a1, c1, rfl, _, r1⟩ := o21.formN 0 rfl
    replace ha := ha.ext x21.box
    replace hb := hb.ext x21.box
    replace X := X.trans x21.box
    clear o21 x21
    go_wp2_with fail
    refine (RValid_c _ _).mono ?_; rintro e w3 ⟨rfl, x4⟩
    replace ha := ha.ext x4
    replace hb := hb.ext x4
    replace r1 := r1.ext x4
    replace X := X.trans x4
    clear x4
    rw [V.out]
    go_wp2_with fail
    go_ret
    exact ⟨rfl, X⟩
  have t1 : ((l.length : Int) != (m.length : Int)) = false := by rw [hlen]; simp
  have HL := Lib.hid hlen
  have hml : m.length ≤ 12 := hf1
  clear hlen
  by_cases hdf : Q.Diff p l
  case neg =>
    have HD := Lib.hid hdf
    have HN : Hid (¬ (l.map (fred p)).Nodup) := Lib.hid (fun h => hdf ((Q.diff_nodup V.out l).2 h))
    clear hdf
    go_enter Try.func4, Try.ntmps4
    go_wp2_with fail
    refine (awake_c _).mono ?_; rintro e w1 ⟨rfl, x2⟩
    have X := x2
    clear x2
    have ha := HA.out.ext X
    have hb := HB.out.ext X
    go_wp2_with fail
    refine (Interp_dup p l m a b c d _ V.out (ha.ext ((Ext.refl _).alloc _)) HL.out (by omega) HN.out).mono ?_; rintro e w21 ⟨v, rfl, o21, x21⟩
    obtain ⟨a1, c1, rfl, _, r1⟩ := o21.formN 0 rfl
    replace ha := ha.ext x21.box
    replace hb := hb.ext x21.box
    replace X := X.trans x21.box
    clear o21 x21
    go_wp2_with fail
    refine (RValid_c _ _).mono ?_; rintro e w3 ⟨rfl, x4⟩
    replace ha := ha.ext x4
    replace hb := hb.ext x4
    replace r1 := r1.ext x4
    replace X := X.trans x4
    clear x4
    rw [V.out]
    go_wp2_with fail
    refine (RDiff_c p l a c _ ha (by omega)).mono ?_; rintro e w31 ⟨bb, rfl, hbb, x31⟩
    obtain rfl : bb = false := by cases bb; rfl; exact absurd (hbb.1 rfl) HD.out
    replace X := X.trans x31
    clear hbb x31
    go_wp2_with fail
    go_ret
    exact ⟨rfl, X⟩
  have HD := Lib.hid hdf
  have HN : Hid ((l.map (fred p)).Nodup) := Lib.hid ((Q.diff_nodup V.out l).1 hdf)
  have hpl := Q.pinter_len p l m
  have HV := Lib.hid (fun j hj => Q.inter_value V.out m hdf j hj)
  have IP := fun w' (h1 : Rd w' a l) (h2 : Rd w' b m) => Interp_ok p l m a b c d w' V.out h1 h2 HL.out (by omega) HN.out
  have RI := fun w' (h1 : Rd w' a l) (h2 : Rd w' b m) => RInter_c p l m a b c d w' h1 h2 (by omega) HL.out hlc
  rw [← Q.inter_same V.out] at RI
  obtain ⟨P, hP⟩ : ∃ P, P = pinter p l m := ⟨_, rfl⟩
  rw [← hP] at hpl HV IP RI
  have HIP := Lib.hid IP
  have HRI := Lib.hid RI
  clear hdf IP RI hP
  go_enter Try.func4, Try.ntmps4
  go_wp2_with fail
  refine (awake_c _).mono ?_; rintro e w1 ⟨rfl, x2⟩
  have X := x2
  clear x2
  have ha := HA.out.ext X
  have hb := HB.out.ext X
  go_wp2_with fail
  refine (HIP.out _ (ha.ext ((Ext.refl _).alloc _)) (hb.ext ((Ext.refl _).alloc _))).mono ?_; rintro e w21 ⟨v, rfl, o21, x21⟩
  obtain ⟨a1, c1, rfl, _, _, r1⟩ := o21.form
  replace ha := ha.ext x21.box
  replace hb := hb.ext x21.box
  replace X := X.trans x21.box
  clear o21 x21
  go_wp2_with fail
  refine (RValid_c _ _).mono ?_; rintro e w3 ⟨rfl, x4⟩
  replace ha := ha.ext x4
  replace hb := hb.ext x4
  replace r1 := r1.ext x4
  replace X := X.trans x4
  clear x4
  rw [V.out]
  go_wp2_with fail
  refine (RDiff_c p l a c _ ha (by omega)).mono ?_; rintro e w31 ⟨bb, rfl, hbb, x31⟩
  obtain rfl : bb = true := hbb.2 HD.out
  clear hbb
  replace ha := ha.ext x31
  replace hb := hb.ext x31
  replace r1 := r1.ext x31
  replace X := X.trans x31
  clear x31
  have RP := Lib.hid r1
  have RA := Lib.hid ha
  have RB := Lib.hid hb
  clear r1 ha hb
  go_wp2_with fail
  go_loopw [65] (PIRel l.length w31) (fun i _ => l.length - (intOf i).toNat)
  case atStart => exact ⟨0, rfl, Nat.zero_le _, Ext.refl _⟩
  case round =>
    obtain ⟨k, rfl, hk, hext⟩ := hrel
    by_cases hlt : k < l.length
    · obtain ⟨ga, offa, rfl, hcell⟩ := RA.out.at (by omega)
      obtain ⟨gb, offb, rfl, hcell2⟩ := RB.out.at (by rw [← HL.out]; omega)
      have hkm : k < m.length := by rw [← HL.out]; omega
      have ca := hext.cell (hcell k hlt)
      have cb := hext.cell (hcell2 k hkm)
      have E := HV.out k hlt
      obtain ⟨x, hx0⟩ : ∃ x, x = l.getD k 0 := ⟨_, rfl⟩
      obtain ⟨y, hy0⟩ : ∃ y, y = m.getD k 0 := ⟨_, rfl⟩
      rw [← hx0] at ca E
      rw [← hy0] at cb E
      have t2 : (((reval p x P : Nat) : Int) != ((fred p y : Nat) : Int)) = false := by rw [E]; simp
      clear hcell hcell2 hx0 hy0 E
      go_wp2_with fail
      refine region_facts [[], [], [], [], [(2, 70), (3, 71)], [(4, 72)], [(0, 68), (1, 69), (5, 73)], [], [], [], [(8, 76), (9, 77)], [(10, 78)], [(7, 75), (11, 79)], [(6, 74), (12, 80)]] [some 68, some 69, some 70, some 71, some 72, some 73, some 74, some 75, some 76, some 77, some 78, some 79, some 80, some 81] (by kernel_rfl) (by kernel_rfl) ?_
      with_reducible apply From.eq
      · intro w' hx; have cax := hx.cell ca; have cbx := hx.cell cb; (try dsimp only [List.nil_append, List.cons_append]); dsimp only [DepsV, fat, eqF]; go_wp2; exact OpPost.some _ rfl rfl (Ext.refl _) rfl
      with_reducible apply From.eq
      · intro w' hx; have cax := hx.cell ca; have cbx := hx.cell cb; (try dsimp only [List.nil_append, List.cons_append]); dsimp only [DepsV, fat, eqF]; go_wp2; exact OpPost.some _ rfl rfl (Ext.refl _) rfl
      with_reducible apply From.eq
      · intro w' hx; have cax := hx.cell ca; have cbx := hx.cell cb; (try dsimp only [List.nil_append, List.cons_append]); dsimp only [DepsV, fat, eqF]; go_wp2; exact OpPost.some _ rfl rfl (Ext.refl _) rfl
      with_reducible apply From.eq
      · intro w' hx; have cax := hx.cell ca; have cbx := hx.cell cb; (try dsimp only [List.nil_append, List.cons_append]); dsimp only [DepsV, fat, eqF]; go_wp2; exact OpPost.some _ rfl rfl (Ext.refl _) rfl
      with_reducible apply From.eq
      · intro w' hx; have cax := hx.cell ca; have cbx := hx.cell cb; (try dsimp only [List.nil_append, List.cons_append]); dsimp only [DepsV, fat, eqF]; rintro _ rfl _ rfl; go_wp2; exact OpPost.some _ rfl rfl (Ext.refl _) rfl
      with_reducible apply From.eq
      · intro w' hx; have cax := hx.cell ca; have cbx := hx.cell cb; (try dsimp only [List.nil_append, List.cons_append]); dsimp only [DepsV, fat, eqF]; rintro _ rfl; go_wp2; exact OpPost.some _ rfl rfl (Ext.refl _) rfl
      with_reducible apply From.eq
      · intro w' hx; have cax := hx.cell ca; have cbx := hx.cell cb; (try dsimp only [List.nil_append, List.cons_append]); dsimp only [DepsV, fat, eqF]; rintro _ rfl _ rfl _ rfl; go_wp2_with (go_at_call 24; refine (REval_c p P a1 c1 _ _ (RP.out.ext (hext.trans hx)) (by omega)).mono ?_; rintro e w2 ⟨rfl, hb2⟩); exact OpPost.some _ rfl rfl hb2 rfl
      with_reducible apply From.eq
      · intro w' hx; have cax := hx.cell ca; have cbx := hx.cell cb; (try dsimp only [List.nil_append, List.cons_append]); dsimp only [DepsV, fat, eqF]; go_wp2; exact OpPost.some _ rfl rfl (Ext.refl _) rfl
      with_reducible apply From.eq
      · intro w' hx; have cax := hx.cell ca; have cbx := hx.cell cb; (try dsimp only [List.nil_append, List.cons_append]); dsimp only [DepsV, fat, eqF]; go_wp2; exact OpPost.some _ rfl rfl (Ext.refl _) rfl
      with_reducible apply From.eq
      · intro w' hx; have cax := hx.cell ca; have cbx := hx.cell cb; (try dsimp only [List.nil_append, List.cons_append]); dsimp only [DepsV, fat, eqF]; go_wp2; exact OpPost.some _ rfl rfl (Ext.refl _) rfl
      with_reducible apply From.eq
      · intro w' hx; have cax := hx.cell ca; have cbx := hx.cell cb; (try dsimp only [List.nil_append, List.cons_append]); dsimp only [DepsV, fat, eqF]; rintro _ rfl _ rfl; go_wp2; exact OpPost.some _ rfl rfl (Ext.refl _) rfl
      with_reducible apply From.eq
      · intro w' hx; have cax := hx.cell ca; have cbx := hx.cell cb; (try dsimp only [List.nil_append, List.cons_append]); dsimp only [DepsV, fat, eqF]; rintro _ rfl; go_wp2; exact OpPost.some _ rfl rfl (Ext.refl _) rfl
      with_reducible apply From.eq
      · intro w' hx; have cax := hx.cell ca; have cbx := hx.cell cb; (try dsimp only [List.nil_append, List.cons_append]); dsimp only [DepsV, fat, eqF]; rintro _ rfl _ rfl; go_wp2_with (go_at_call 25; refine (RReduce_c _ _ _).mono ?_; rintro e w2 ⟨rfl, hb2⟩); exact OpPost.some _ rfl rfl hb2 rfl
      with_reducible apply From.eq
      · intro w' hx; have cax := hx.cell ca; have cbx := hx.cell cb; (try dsimp only [List.nil_append, List.cons_append]); dsimp only [DepsV, fat, eqF]; rintro _ rfl _ rfl; go_wp2; exact OpPost.some _ rfl rfl (Ext.refl _) rfl
      with_reducible refine From.fin ?_
      intro w' hx
      (try dsimp only [List.nil_append, List.cons_append]); dsimp only [EndV, eqF]; rintro _ rfl _ rfl _ rfl _ rfl _ rfl _ rfl _ rfl _ rfl _ rfl _ rfl _ rfl _ rfl _ rfl _ rfl; simp only [Act.put, List.setIfInBounds_toArray, List.set_cons_zero, List.set_cons_succ]
      go_wp2
      go_roundw
      case rel => exact ⟨k + 1, by go_num, by omega, hext.trans hx⟩
      case measure => simp [intOf]; omega
    · obtain rfl : k = l.length := by omega
      have t3 : decide (P.length ≤ l.length) = true := decide_eq_true (by omega)
      have RP2 := RP.out.ext hext
      go_wp2_with fail
      refine (HRI.out _ (RA.out.ext hext) (RB.out.ext hext)).mono ?_; rintro e w41 ⟨v, rfl, o41, x41⟩
      obtain ⟨a4, c4, rfl, _, _, r4⟩ := o41.form
      clear o41
      go_wp2_with fail
      refine (same_c P _ _ _ _ _ _ rfl (RP2.ext x41) r4 (by omega)).mono ?_; rintro e w42 ⟨rfl, x42⟩
      go_wp2_with fail
      go_ret
      exact ⟨rfl, (X.trans hext).trans (x41.trans x42)⟩
end Go.Proofs.Ytbklflhikcfceaa
