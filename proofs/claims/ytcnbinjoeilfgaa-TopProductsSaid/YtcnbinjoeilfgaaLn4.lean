/- Contract: Powers. -/
import Derived.Test.YtcnbinjoeilfgaaLn2
import Derived.Test.YtcnbinjoeilfgaaTr5
namespace Go.Proofs.Ytcnbinjoeilfgaa
open Go.RowKit
/-- The power of a as the code counts it. -/
def gsK (p a : Nat) : Nat → Nat
  | 0 => 1
  | i + 1 => gsK p a i * (a % p) % p
theorem gsK_lt {p : Nat} (hv : vld p = true) (a : Nat) : ∀ i, gsK p a i < p
  | 0 => by have := vld_bd hv; show 1 < p; omega
  | i + 1 => Nat.mod_lt _ (by have := vld_bd hv; omega)
def PwRel (p a N g : Nat) (w1 : World) (sh i : Value) (wr : World) : Prop :=
  ∃ j : Nat, i = .int .i64 j ∧ j ≤ N ∧ sh = .int .u64 ((gsK p a j : Nat) : Int) ∧ Arr wr g (fill (gsK p a) N j) N ∧ Ext w1 wr
set_option maxRecDepth 100000 in
set_option maxHeartbeats 2000000 in
theorem Powers_c (p a N : Nat) (w : World) (hv : vld p = true) (hN : N ≤ 64) :
    Calls Try.prog 66 #[.agg #[.int .u64 p], .int .u64 a, .int .i64 N] w (SlPost w ((List.range N).map (gsK p a))) := by
  have V := Lib.hid hv
  have hp := vld_bd hv
  have RC := fun w' => reduced_c p a w' (by omega)
  obtain ⟨r, hr⟩ : ∃ r, r = a % p := ⟨_, rfl⟩
  simp only [← hr] at RC
  have HRC := Lib.hid RC
  have HR := Lib.hid hr
  have hrp : r < p := by rw [hr]; exact Nat.mod_lt _ (by omega)
  have t2 : decide ((65536 : Int) < (N : Int)) = false := decide_eq_false (by omega)
  have t3 : decide ((N : Int) < 0) = false := decide_eq_false (by omega)
  have hmk := make_c N N (Nat.le_refl _) (by omega)
  clear hv RC hr
  go_enter Try.func66, Try.ntmps66
  go_wp2_with fail
  refine (Valid_c _ _).mono ?_; rintro e w1 ⟨rfl, x1⟩; rw [V.out]
  have hc := x1.boxCell
  go_wp2_with fail
  refine (HRC.out _).mono ?_; rintro e w3 ⟨rfl, x3⟩
  replace hc := x3.cell hc
  have X3 := x1.box.trans x3
  go_wp2_with fail
  clear hmk
  go_loopw [8, 28] (PwRel p a N w3.heap.size w3) (fun _ i _ => N - (intOf i).toNat)
  case atStart =>
    refine ⟨0, rfl, Nat.zero_le _, rfl, ?_, (Ext.refl _).alloc _⟩
    have := Arr.ofBlk (Blk.new w3 (rowA (List.replicate N 0))) (by simp; omega)
    rw [List.length_replicate] at this
    rw [fill_zero]; exact this
  case round =>
    obtain ⟨j, rfl, hj, rfl, harr, hext⟩ := hrel
    have hc2 := hext.cell hc
    by_cases hlt : j < N
    · have hst := fill_step (gsK p a) N j hlt
      have E1 : Hid (gsK p a (j + 1) = gsK p a j * r % p) := Lib.hid (by rw [HR.out]; rfl)
      have hxl := gsK_lt V.out a j
      have hfl : j < (fill (gsK p a) N j).length := by rw [fill_len _ _ _ hj]; exact hlt
      obtain ⟨x, hx0⟩ : ∃ x, x = gsK p a j := ⟨_, rfl⟩
      obtain ⟨T, hT⟩ : ∃ T, T = fill (gsK p a) N j := ⟨_, rfl⟩
      rw [← hx0] at hst E1 hxl
      rw [← hx0]
      rw [← hT] at hst harr hfl
      have f2 := harr.frozen j
      have c2 := harr.at hfl
      have A2 := harr.set j x hfl
      have HST := Lib.hid hst
      have HA2 := Lib.hid A2
      have hc3 := (hext.setNew (p := ⟨w3.heap.size, j, none⟩) (Nat.le_refl _) (.int .u64 (x : Int))).cell hc
      clear hx0 hT hst harr hfl A2
      go_wp2_with fail
      refine (mul_c _ _ _ _ V.out hxl hrp).mono ?_; rintro e w4 ⟨rfl, x4⟩
      go_wp2_with fail
      go_roundw
      case rel =>
        refine ⟨j + 1, by go_num, by omega, by rw [E1.out]; push_cast; rfl, ?_, (hext.setNew (Nat.le_refl _) _).trans x4⟩
        rw [← HST.out]; exact HA2.out.ext x4
      case measure => simp [intOf]; omega
    · obtain rfl : j = N := by omega
      have HO : Hid (Own wr w.heap.size (.slice (some ⟨w3.heap.size, 0, none⟩) j j) ((List.range j).map (gsK p a))) := Lib.hid (by
        rw [fill_full] at harr
        have := harr.own X3.size
        rw [show ((List.range j).map (gsK p a)).length = j by simp] at this
        exact this)
      clear harr
      go_wp2
      go_ret
      exact ⟨_, rfl, HO.out, X3.trans hext⟩
end Go.Proofs.Ytcnbinjoeilfgaa
