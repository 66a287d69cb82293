/- Walk of MarksetIsolated. -/
import Derived.Test.YteomgccpocgffaaMk7
namespace Go.Proofs.Yteomgccpocgffaa
open Go.RowKit
def IsRel (l : List Nat) (g c : Nat) (w : World) (s : Value) (wr : World) : Prop :=
  ∃ j : Nat, s = .int .i64 j ∧ j ≤ l.length ∧ (l.length = 0 → Ext w wr) ∧ (0 < l.length → ∃ l' : List Nat, l'.length = l.length ∧ Arr wr g l' c ∧ But g w wr)
def IzRel (n g c : Nat) (w : World) (s : Value) (wr : World) : Prop :=
  ∃ j : Nat, s = .int .i64 j ∧ j ≤ n ∧ (0 < n → ∃ l' : List Nat, l'.length = n ∧ Arr wr g l' c) ∧ Ext w wr
theorem own_at {w w0 : World} {v : Value} {l : List Nat} (h : Own w w0.heap.size v l) : ∃ (a : Option Addr) (c g : Nat), v = .slice a l.length c ∧ Rd w a l ∧ (0 < l.length → a = some ⟨g, 0, none⟩ ∧ w0.heap.size ≤ g ∧ Arr w g l c) := by
  by_cases h0 : 0 < l.length
  · obtain ⟨g, c, rfl, hb, _, ha⟩ := h.arr h0
    exact ⟨_, c, g, rfl, ha.rd, fun _ => ⟨rfl, hb, ha⟩⟩
  · obtain ⟨a, c, hv, _, _, hr⟩ := h.form
    exact ⟨a, c, 0, hv, hr, fun hh => absurd hh h0⟩

set_option maxRecDepth 100000 in
set_option maxHeartbeats 8000000 in
theorem MarksetIsolated_w (os : OpL) (a : Option Addr) (c : Nat) (l : List Nat) (ax : Option Addr) (cx : Nat) (w : World) (ha : RdO w a os) (hl : os.length ≤ 9223372036854775807) (hax : Rd w ax l) (hxl : l.length ≤ 9223372036854775807) (hxb : ∀ x ∈ l, x < 18446744073709551616) :
    Calls Try.prog 9 #[.slice a os.length c, .slice ax l.length cx] w fun e w' => e = .returned (.bool true) ∧ Ext w w' := by
  have FC := fun w' (h : RdO w' a os) => few_c os a c w' h hl
  have HA := Lib.hid ha
  have HAX := Lib.hid hax
  have HXB := Lib.hid hxb
  cases hf : fewB os
  case false =>
    rw [hf] at FC
    have HFC := Lib.hid FC
    clear FC ha hf hax hxb
    go_enter Try.func9, Try.ntmps9
    go_wp2_with fail
    refine (awake38_c _).mono ?_; rintro e w1 ⟨rfl, x1⟩
    go_wp2_with fail
    refine (HFC.out _ (HA.out.ext x1)).mono ?_; rintro e w2 ⟨rfl, x2⟩
    have X2 := Lib.hid (x1.trans x2)
    clear x1 x2
    go_wp2_with fail
    go_ret
    exact ⟨rfl, X2.out⟩
  rw [hf] at FC
  have HFC := Lib.hid FC
  have RC := Lib.hid (fun w' (h : RdO w' a os) => run_c os a c w' h hf)
  have hml := runM_len hf os.length (Nat.le_refl _)
  have HASC := Lib.hid (runM_asc os os.length)
  have hl30 : os.length ≤ 30 := by unfold fewB at hf; rw [Bool.and_eq_true] at hf; exact of_decide_eq_true hf.2
  obtain ⟨M, hM⟩ : ∃ M, M = runM os os.length := ⟨_, rfl⟩
  rw [← hM] at RC hml HASC
  have hml2 : M.length ≤ 600 := by omega
  clear FC ha hf hM hml hax hxb
  by_cases h20 : l.length ≤ 20
  case neg =>
    have t1 : decide ((20 : Int) < (l.length : Int)) = true := decide_eq_true (by omega)
    go_enter Try.func9, Try.ntmps9
    go_wp2_with fail
    refine (awake38_c _).mono ?_; rintro e w1 ⟨rfl, x1⟩
    go_wp2_with fail
    refine (HFC.out _ (HA.out.ext x1)).mono ?_; rintro e w2 ⟨rfl, x2⟩
    have X2 := Lib.hid (x1.trans x2)
    clear x1 x2
    go_wp2_with fail
    go_ret
    exact ⟨rfl, X2.out⟩
  have t1 : decide ((20 : Int) < (l.length : Int)) = false := decide_eq_false (by omega)
  have OC := Lib.hid (fun w' (h : Rd w' ax l) => own38_c l ax cx w' h (by omega))
  have AC := Lib.hid (fun w' a' c' ps b (h1 : St w' ps b M) (h2 : Rd w' a' l) => Add_c M l a' c' ps b w' h1 h2 (by omega) (by omega) HXB.out)
  have XC := Lib.hid (fun w' a' c' (h1 : Rd w' a' M) (h2 : Rd w' ax l) => RAdd38_x M l a' ax c' cx w' HASC.out h1 h2 (by omega) (by omega))
  have hN1 := asc_srt (aRes_nodup HASC.out.nodup l)
  have hN2 := aRes_len M l
  have hNP := srt_perm (aRes M l)
  rw [← srt_len] at hN2
  obtain ⟨N, hN⟩ : ∃ N, N = srt (aRes M l) := ⟨_, rfl⟩
  rw [← hN] at hN1 hN2 XC hNP
  have HNP := Lib.hid hNP
  have HNA := Lib.hid hN1
  have hnl : N.length ≤ 620 := by omega
  have IC := fun w' ps b (h : St w' ps b N) => List_c N ps b w' h HNA.out.nodup (by omega)
  rw [HNA.out.srt] at IC
  have HIC := Lib.hid IC
  have SC := Lib.hid (fun w' a' c' ps b (h1 : St w' ps b N) (h2 : Rd w' a' N) => same_c N a' c' ps b w' h1 HNA.out h2 (by omega))
  clear hN hN1 hN2 hNP IC
  go_enter Try.func9, Try.ntmps9
  go_wp2_with fail
  refine (awake38_c _).mono ?_; rintro e w1 ⟨rfl, x1⟩
  go_wp2_with fail
  refine (HFC.out _ (HA.out.ext x1)).mono ?_; rintro e w2 ⟨rfl, x2⟩
  have X2 := Lib.hid (x1.trans x2)
  clear x1 x2
  go_wp2_with fail
  refine (RC.out _ (HA.out.ext X2.out)).mono ?_; rintro e w3 ⟨ps, b, am, cm, rfl, s3, r3, hb0, x3⟩
  have S3 := Lib.hid s3
  have R3 := Lib.hid r3
  have X3 := Lib.hid (X2.out.trans x3)
  have hb : w.heap.size ≤ b := Nat.le_trans X2.out.size hb0
  clear s3 r3 x3 hb0
  go_wp2_with fail
  refine (OC.out _ (HAX.out.ext X3.out)).mono ?_; rintro e w4 ⟨v4, rfl, o4, x4⟩
  obtain ⟨a4, c4, g, rfl, r4, hg4⟩ := own_at o4
  have S4 := Lib.hid (S3.out.ext x4)
  have X4 := Lib.hid (X3.out.trans x4)
  have R4 := Lib.hid (R3.out.ext x4)
  have R4l := Lib.hid r4
  have HG4 := Lib.hid hg4
  clear x4 o4 r4 hg4
  go_wp2_with fail
  refine (XC.out _ _ _ R4.out (HAX.out.ext X4.out)).mono ?_; rintro e w5 ⟨a5, c5, rfl, r5, x5, hfr⟩
  have S5 := Lib.hid (S4.out.ext x5)
  have X5 := Lib.hid (X4.out.trans x5)
  have R5 := Lib.hid r5
  have R5l := Lib.hid (R4l.out.ext x5)
  have HFR := Lib.hid hfr
  have E45 := Lib.hid x5
  clear x5 r5 hfr
  go_wp2_with fail
  refine (AC.out _ _ _ _ _ S5.out R5l.out).mono ?_; rintro e w6 ⟨rfl, s6, b6⟩
  have S6 : Hid (St w6 ps b N) := Lib.hid ⟨s6.cell, s6.map.perm HNP.out.symm⟩
  have R6 := Lib.hid (S5.out.map.rd b6 R5.out)
  have X6 := Lib.hid (b6.ext X5.out hb)
  have HG6 : Hid (0 < l.length → a4 = some ⟨g, 0, none⟩ ∧ w3.heap.size ≤ g ∧ g < w4.heap.size ∧ Arr w6 g l c4) := Lib.hid (fun h => by
    obtain ⟨k1, k2, k3⟩ := HG4.out h
    have hne : g ≠ b := fun e => by have := S3.out.map.lt; omega
    exact ⟨k1, k2, k3.lt, b6.arr (k3.ext E45.out) hne⟩)
  clear s6 b6
  go_wp2_with fail
  go_loopw [45] (IsRel l g c4 w6) (fun i _ => l.length - (intOf i).toNat)
  case atStart => exact ⟨0, rfl, Nat.zero_le _, fun _ => Ext.refl _, fun h => ⟨l, rfl, (HG6.out h).2.2.2, But.refl _ _⟩⟩
  case round =>
    obtain ⟨j, rfl, hj, hz, hp⟩ := hrel
    have HZ := Lib.hid hz
    have HP := Lib.hid hp
    clear hz hp
    by_cases hlt : j < l.length
    · obtain ⟨k1, k2, k3, _⟩ := HG6.out (by omega)
      obtain ⟨l', e', ar, bu⟩ := HP.out (by omega)
      subst k1
      have cj := ar.at (i := j) (by omega)
      have fj := ar.frozen j
      have HAR := Lib.hid ar
      have HBU := Lib.hid bu
      obtain ⟨y, hy⟩ : ∃ y, y = l'.getD j 0 := ⟨_, rfl⟩
      rw [← hy] at cj
      have tw : IntKind.u64.wrap ((y : Int) + 1) = (((y + 1) % 18446744073709551616 : Nat) : Int) := by rw [IntKind.wrap_u64]; omega
      obtain ⟨z, hzz⟩ : ∃ z, z = (y + 1) % 18446744073709551616 := ⟨_, rfl⟩
      rw [← hzz] at tw
      have HE' := Lib.hid e'
      clear ar bu hy hzz k2 k3 e'
      go_wp2_with fail
      go_roundw
      case rel =>
        refine ⟨j + 1, by go_num, by omega, fun h => absurd h (by omega), fun _ => ⟨l'.set j z, by rw [List.length_set]; exact HE'.out, HAR.out.set j z (by have := HE'.out; omega), HBU.out.trans (But.set _ _ _ _)⟩⟩
      case measure => simp [intOf]; omega
    · have S7 : Hid (St wr ps b N) := Lib.hid (by
        by_cases h0 : l.length = 0
        · exact S6.out.ext (HZ.out h0)
        · obtain ⟨_, k2, k3, _⟩ := HG6.out (by omega)
          obtain ⟨_, _, _, bu⟩ := HP.out (by omega)
          have p1 := World.block_lt_of_cell? w3 ⟨ps, 0, none⟩ S3.out.cell
          have p2 := S3.out.map.lt
          exact ⟨bu.cell S6.out.cell (fun e => by simp at e p1; omega), S6.out.map.but bu (by omega)⟩)
      have R7 : Hid (Rd wr a5 N) := Lib.hid (by
        by_cases h0 : l.length = 0
        · exact R6.out.ext (HZ.out h0)
        · obtain ⟨_, k2, k3, _⟩ := HG6.out (by omega)
          obtain ⟨_, _, _, bu⟩ := HP.out (by omega)
          rcases HFR.out with ⟨q1, q2⟩ | q
          · by_cases hM0 : 0 < M.length
            · obtain ⟨gb, ob, hq, hc⟩ := R3.out.at hM0
              have p1 := World.block_lt_of_cell? w3 _ (hc 0 hM0)
              refine bu.rd R6.out (fun p hp => ?_)
              rw [q1, hq] at hp
              cases hp
              simp at p1 ⊢; omega
            · have : N = [] := List.eq_nil_of_length_eq_zero (by rw [q2]; omega)
              rw [this]; exact Rd.nil _ _
          · exact bu.rd R6.out (fun p hp => by have := q p hp; omega))
      have X7 : Hid (Ext w wr) := Lib.hid (by
        by_cases h0 : l.length = 0
        · exact X6.out.trans (HZ.out h0)
        · obtain ⟨_, k2, _, _⟩ := HG6.out (by omega)
          obtain ⟨_, _, _, bu⟩ := HP.out (by omega)
          exact bu.ext X6.out (Nat.le_trans X3.out.size k2))
      obtain ⟨w7, rfl⟩ : ∃ q : World, q = wr := ⟨_, rfl⟩
      go_wp2_with fail
      refine (HIC.out _ _ _ S7.out).mono ?_; rintro e w8 ⟨v8, rfl, o8, x8⟩
      obtain ⟨a8, c8, g8, rfl, r8, hg8⟩ := own_at o8
      have HG8 := Lib.hid hg8
      have X8 := Lib.hid x8
      clear o8 x8 r8 hg8
      go_wp2_with fail
      go_loopw [59] (IzRel N.length g8 c8 w7) (fun i _ => N.length - (intOf i).toNat)
      case atStart => exact ⟨0, rfl, Nat.zero_le _, fun h => ⟨N, rfl, (HG8.out h).2.2⟩, X8.out⟩
      case round =>
        obtain ⟨i, rfl, hi, hp, hx⟩ := hrel
        have HP2 := Lib.hid hp
        have HX2 := Lib.hid hx
        clear hp hx
        by_cases hlt2 : i < N.length
        · obtain ⟨k1, k2, _⟩ := HG8.out (by omega)
          obtain ⟨l', e', ar⟩ := HP2.out (by omega)
          subst k1
          have cj := ar.at (i := i) (by omega)
          have fj := ar.frozen i
          have HAR := Lib.hid ar
          have HE' := Lib.hid e'
          have HK2 := Lib.hid k2
          obtain ⟨y, hy⟩ : ∃ y, y = l'.getD i 0 := ⟨_, rfl⟩
          rw [← hy] at cj
          clear ar hy k2 e'
          go_wp2_with fail
          go_roundw
          case rel =>
            refine ⟨i + 1, by go_num, by omega, fun _ => ⟨l'.set i 7, by rw [List.length_set]; exact HE'.out, HAR.out.set i 7 (by have := HE'.out; omega)⟩, HX2.out.setNew HK2.out _⟩
          case measure => simp [intOf]; omega
        · have S9 := Lib.hid (S7.out.ext HX2.out)
          have R9 := Lib.hid (R7.out.ext HX2.out)
          have X9 := Lib.hid (X7.out.trans HX2.out)
          go_wp2_with fail
          refine (SC.out _ _ _ _ _ S9.out R9.out).mono ?_; rintro e w10 ⟨rfl, x10⟩
          go_wp2_with fail
          go_ret
          exact ⟨rfl, X9.out.trans x10⟩
end Go.Proofs.Yteomgccpocgffaa
