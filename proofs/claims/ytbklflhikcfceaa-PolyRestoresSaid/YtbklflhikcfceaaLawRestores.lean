/- Walks of laws of layer 3. -/
import Derived.Test.YtbklflhikcfceaaLaw
import Derived.Test.YtbklflhikcfceaaRef7
namespace Go.Proofs.Ytbklflhikcfceaa
open Go.RowKit

def RsRel (p : Nat) (l m : List Nat) (w0 : World) (v s : Value) (wr : World) : Prop :=
  ∃ k : Nat, s = .int .i64 k ∧ k ≤ m.length ∧ Own wr w0.heap.size v ((m.take k).map fun x => horner p x l) ∧ Ext w0 wr

set_option maxRecDepth 100000 in
set_option maxHeartbeats 2000000 in
theorem PolyRestores_w (p : Nat) (l m : List Nat) (a b : Option Addr) (c d : Nat) (w : World) (ha : Rd w a l) (hb : Rd w b m) :
    Calls Try.prog 6 #[.int .u64 p, .slice a l.length c, .slice b m.length d] w fun e w' => e = .returned (.bool true) ∧ Ext w w' := by
  have HA := Lib.hid ha
  have HB := Lib.hid hb
  clear ha hb
  by_cases hf0 : m.length ≤ 12
  case neg =>
    have hd0 : decide ((12 : Int) < m.length) = true := decide_eq_true (by omega)
    clear hf0
    go_enter Try.func6, Try.ntmps6
    go_wp2_with fail
    refine (awake_c _).mono ?_; rintro e w1 ⟨rfl, x2⟩
    have X := x2
    clear x2
    go_wp2_with fail
    refine (awake_c _).mono ?_; rintro e w3 ⟨rfl, x4⟩
    replace X := X.trans x4
    clear x4
    go_wp2_with fail
    go_ret
    exact ⟨rfl, X⟩
  have hd0 : decide ((12 : Int) < m.length) = false := decide_eq_false (by omega)
  by_cases hf1 : l.length ≤ 24
  case neg =>
    have hd1 : decide ((l.length : Int) ≤ 24) = false := decide_eq_false (by omega)
    clear hf1
    go_enter Try.func6, Try.ntmps6
    go_wp2_with fail
    refine (awake_c _).mono ?_; rintro e w1 ⟨rfl, x2⟩
    have X := x2
    clear x2
    go_wp2_with fail
    refine (few_c l a c _).mono ?_; rintro e w3 ⟨rfl, rfl⟩
    go_wp2_with fail
    refine (awake_c _).mono ?_; rintro e w4 ⟨rfl, x5⟩
    replace X := X.trans x5
    clear x5
    go_wp2_with fail
    go_ret
    exact ⟨rfl, X⟩
  have hd1 : decide ((l.length : Int) ≤ 24) = true := decide_eq_true (by omega)
  cases hv : vld p
  case false =>
    have V := Lib.hid hv
    clear hv
    go_enter Try.func6, Try.ntmps6
    go_wp2_with fail
    refine (awake_c _).mono ?_; rintro e w1 ⟨rfl, x2⟩
    have X := x2
    clear x2
    go_wp2_with fail
    refine (few_c l a c _).mono ?_; rintro e w3 ⟨rfl, rfl⟩
    go_wp2_with fail
    refine (RValid_c _ _).mono ?_; rintro e w4 ⟨rfl, x5⟩
    replace X := X.trans x5
    clear x5
    rw [V.out]
    go_wp2_with fail
    refine (awake_c _).mono ?_; rintro e w6 ⟨rfl, x7⟩
    replace X := X.trans x7
    clear x7
    go_wp2_with fail
    go_ret
    exact ⟨rfl, X⟩
  have V := Lib.hid hv
  clear hv
  by_cases hdg : (trimP p l).length ≤ m.length
  case neg =>
    have hd2 : decide ((m.length : Int) ≤ ((trimP p l).length : Int) - 1) = true := decide_eq_true (by omega)
    clear hdg
    go_enter Try.func6, Try.ntmps6
    go_wp2_with fail
    refine (awake_c _).mono ?_; rintro e w1 ⟨rfl, x2⟩
    have X := x2
    clear x2
    go_wp2_with fail
    refine (few_c l a c _).mono ?_; rintro e w3 ⟨rfl, rfl⟩
    go_wp2_with fail
    refine (RValid_c _ _).mono ?_; rintro e w4 ⟨rfl, x5⟩
    replace X := X.trans x5
    clear x5
    rw [V.out]
    go_wp2_with fail
    refine (RDegree_c p l a c _ (HA.out.ext X) (by omega)).mono ?_; rintro e w6 ⟨rfl, x7⟩
    replace X := X.trans x7
    clear x7
    go_wp2_with fail
    refine (awake_c _).mono ?_; rintro e w8 ⟨rfl, x9⟩
    replace X := X.trans x9
    clear x9
    go_wp2_with fail
    go_ret
    exact ⟨rfl, X⟩
  have hd2 : decide ((m.length : Int) ≤ ((trimP p l).length : Int) - 1) = false := decide_eq_false (by omega)
  by_cases hdf : Q.Diff p m
  case neg =>
    have HD := Lib.hid hdf
    clear hdf
    go_enter Try.func6, Try.ntmps6
    go_wp2_with fail
    refine (awake_c _).mono ?_; rintro e w1 ⟨rfl, x2⟩
    have X := x2
    clear x2
    go_wp2_with fail
    refine (few_c l a c _).mono ?_; rintro e w3 ⟨rfl, rfl⟩
    go_wp2_with fail
    refine (RValid_c _ _).mono ?_; rintro e w4 ⟨rfl, x5⟩
    replace X := X.trans x5
    clear x5
    rw [V.out]
    go_wp2_with fail
    refine (RDegree_c p l a c _ (HA.out.ext X) (by omega)).mono ?_; rintro e w6 ⟨rfl, x7⟩
    replace X := X.trans x7
    clear x7
    go_wp2_with fail
    refine (RDiff_c p m b d _ (HB.out.ext X) (by omega)).mono ?_; rintro e w31 ⟨bb, rfl, hbb, x31⟩
    obtain rfl : bb = false := by cases bb; rfl; exact absurd (hbb.1 rfl) HD.out
    replace X := X.trans x31
    clear hbb x31
    go_wp2_with fail
    refine (awake_c _).mono ?_; rintro e w8 ⟨rfl, x9⟩
    replace X := X.trans x9
    clear x9
    go_wp2_with fail
    go_ret
    exact ⟨rfl, X⟩
  have HD := Lib.hid hdf
  have HN : Hid ((m.map (fred p)).Nodup) := Lib.hid ((Q.diff_nodup V.out m).1 hdf)
  have hre := Q.restores V.out l m hdf hdg
  have IP := fun w' b' a' d' c' (h1 : Rd w' b' m) (h2 : Rd w' a' (m.map fun x => horner p x l)) => Interp_ok p m (m.map fun x => horner p x l) b' a' d' c' w' V.out h1 h2 (by simp) (by omega) HN.out
  rw [hre] at IP
  have T1 := fun w' (h : Rd w' a l) => RTrim_c p l a c w' h (by omega)
  have hYl : (m.map fun x => horner p x l).length = m.length := by simp
  have E := fun k (h : k < m.length) => (by rw [take_snoc m k h, List.map_append]; rfl : (m.take (k + 1)).map (fun x => horner p x l) = (m.take k).map (fun x => horner p x l) ++ [horner p (m.getD k 0) l])
  have hkl := trimP_le p l
  obtain ⟨T, hT⟩ : ∃ T, T = trimP p l := ⟨_, rfl⟩
  rw [← hT] at IP T1 hkl hd2
  have HDG := Lib.hid (fun w' h => RDegree_c p l a c w' h (by omega))
  rw [← hT] at HDG
  have HIP := Lib.hid IP
  have HT1 := Lib.hid T1
  have HE := Lib.hid E
  have HYL := Lib.hid hYl
  clear hdf hdg hre IP T1 hT E hYl
  go_enter Try.func6, Try.ntmps6
  go_wp2_with fail
  refine (awake_c _).mono ?_; rintro e w1 ⟨rfl, x2⟩
  have X := x2
  clear x2
  go_wp2_with fail
  refine (few_c l a c _).mono ?_; rintro e w3 ⟨rfl, rfl⟩
  go_wp2_with fail
  refine (RValid_c _ _).mono ?_; rintro e w4 ⟨rfl, x5⟩
  replace X := X.trans x5
  clear x5
  rw [V.out]
  go_wp2_with fail
  refine (HDG.out _ (HA.out.ext X)).mono ?_; rintro e w6 ⟨rfl, x7⟩
  replace X := X.trans x7
  clear x7
  go_wp2_with fail
  refine (RDiff_c p m b d _ (HB.out.ext X) (by omega)).mono ?_; rintro e w31 ⟨bb, rfl, hbb, x31⟩
  obtain rfl : bb = true := hbb.2 HD.out
  replace X := X.trans x31
  clear hbb x31
  go_wp2_with fail
  go_loopw [8, 49] (RsRel p l m (w31.alloc (.cells #[.int .u64 p] 27))) (fun _ i _ => m.length - (intOf i).toNat)
  case atStart => exact ⟨0, rfl, Nat.zero_le _, Own.nil _ _, Ext.refl _⟩
  case round =>
    obtain ⟨k, rfl, hk, hown, hext⟩ := hrel
    have hc := hext.boxCell
    have HX := Lib.hid hext
    have HO := Lib.hid hown
    have X2 := X.trans hext.box
    clear hown hext
    by_cases hlt : k < m.length
    · obtain ⟨gb, offb, rfl, hcell⟩ := HB.out.at (by omega)
      have cb := X2.cell (hcell k hlt)
      have E := Lib.hid (HE.out k hlt)
      obtain ⟨x, hx0⟩ : ∃ x, x = m.getD k 0 := ⟨_, rfl⟩
      rw [← hx0] at cb E
      clear hcell hx0
      go_wp2_with fail
      refine (EvalP_c p l a c x _ (HA.out.ext X2) (by omega)).mono ?_; rintro e w2 ⟨rfl, x2⟩
      go_wp2_with (at_builtin; refine wpList_app1 rfl (.tmp 53) (.tmp 58) rfl (w31.alloc (.cells #[.int .u64 p] 27)).heap.size _ _ rfl ((HO.out.grow x2).grow ((Ext.refl _).alloc _)) w2.heap.size (horner p x l) 1 rfl (by simp) (by simp; omega) (Nat.le_trans (HX.out.trans x2).size (by simp)) ?_; intro v' w3 hown3 hx3 _)
      go_roundw
      case rel =>
        refine ⟨k + 1, by go_num, by omega, ?_, hx3 _ ((HX.out.trans x2).alloc _) (Nat.le_refl _)⟩
        rw [E.out]; exact hown3
      case measure => simp [intOf]; omega
    · obtain rfl : k = m.length := by omega
      have ho := HO.out
      rw [List.take_length] at ho
      obtain ⟨aY, cY, rfl, _, _, rY⟩ := ho.form
      have I1 := HIP.out wr b aY d cY (HB.out.ext X2) rY
      rw [HYL.out] at I1
      have I2 := Lib.hid I1
      clear ho rY I1
      go_wp2_with fail
      refine I2.out.mono ?_; rintro e w41 ⟨v, rfl, o41, x41⟩
      obtain ⟨a4, c4, rfl, _, _, r4⟩ := o41.form
      replace X2 := X2.trans x41
      clear o41 x41
      go_wp2_with fail
      refine (HT1.out _ (HA.out.ext X2)).mono ?_; rintro e w42 ⟨v, rfl, o42, x42⟩
      obtain ⟨a5, c5, rfl, _, _, r5⟩ := o42.form
      clear o42
      go_wp2_with fail
      refine (same_c T _ _ _ _ _ _ rfl (r4.ext x42) r5 (by omega)).mono ?_; rintro e w43 ⟨rfl, x43⟩
      go_wp2_with fail
      go_ret
      exact ⟨rfl, X2.trans (x42.trans x43)⟩
end Go.Proofs.Ytbklflhikcfceaa
