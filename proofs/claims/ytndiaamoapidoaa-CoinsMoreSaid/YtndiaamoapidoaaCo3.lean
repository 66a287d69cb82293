/- Contracts: slices.Reverse of any slice of the call's own, coins.fewest. -/
import Derived.Test.YtndiaamoapidoaaCo2
namespace Go.Proofs.Ytndiaamoapidoaa
open Go.RowKit

set_option maxRecDepth 100000 in
set_option maxHeartbeats 1000000 in
theorem Reverse_nil (a : Option Addr) (c : Nat) (w : World) :
    Calls Try.prog 19 #[.slice a 0 c] w fun e w' => e = .returned (.tuple #[]) ∧ w' = w := by
  go_enter Try.func19, Try.ntmps19
  go_wp2
  refine wp_loop_rounds 1 ?_
  rw [rounds_succ]
  go_wp2
  go_end0
  exact ⟨rfl, rfl⟩
theorem Reverse_own (base : Nat) (v : Value) (l : List Nat) (w : World) (h : Own w base v l) (hl : l.length ≤ 1000000) :
    Calls Try.prog 19 #[v] w fun e w' => e = .returned (.tuple #[]) ∧ Own w' base v l.reverse ∧ (∀ w0, Ext w0 w → w0.heap.size ≤ base → Ext w0 w') := by
  by_cases h0 : 0 < l.length
  · obtain ⟨g, c, rfl, hb, _, ha⟩ := h.arr h0
    refine (Reverse_arr g c l w ha hl).mono ?_
    rintro e w' ⟨rfl, ha', hbut⟩
    refine ⟨rfl, ?_, fun w0 hx hs => hbut.ext hx (by omega)⟩
    have := ha'.own hb
    rw [List.length_reverse] at this
    exact this
  · have hn : l = [] := List.eq_nil_of_length_eq_zero (by omega)
    subst hn
    obtain ⟨a, c, rfl, _⟩ := h.form
    refine (Reverse_nil a c w).mono ?_
    rintro e w' ⟨rfl, rfl⟩
    exact ⟨rfl, h, fun w0 hx _ => hx⟩
/-- The values, the greatest first. -/
def dsc (l : List Nat) : List Nat := (srt l).reverse
def fw : List Nat → Nat → Nat → Nat → Int
  | [], t, s, n => if t ≤ s then (n : Int) else -1
  | x :: r, t, s, n => if t ≤ s then (n : Int) else fw r t (s + x) (n + 1)
def fewM (l : List Nat) (t : Nat) : Int := fw (dsc l) t 0 0
theorem dsc_len (l : List Nat) : (dsc l).length = l.length := by unfold dsc; rw [List.length_reverse, srt_len]
theorem dsc_small {l : List Nat} (h : smallL l = true) : ∀ i, i < (dsc l).length → (dsc l).getD i 0 ≤ 4294967295 := fun i hi => by
  have h1 := getD_mem hi
  unfold dsc at h1
  rw [List.mem_reverse] at h1
  obtain ⟨j, hj, e⟩ := getD_of_mem ((srt_perm l).mem_iff.1 h1)
  have := of_decide_eq_true h j hj
  unfold dsc
  omega
def sumT (d : List Nat) : Nat → Nat
  | 0 => 0
  | n + 1 => sumT d n + d.getD n 0
theorem sumT_le {d : List Nat} (h : ∀ i, i < d.length → d.getD i 0 ≤ 4294967295) : ∀ n, n ≤ d.length → sumT d n ≤ 4294967295 * n
  | 0, _ => by simp [sumT]
  | n + 1, hn => by
    have := sumT_le h n (by omega)
    have h2 := h n (by omega)
    show sumT d n + _ ≤ _
    omega
def FwRel (d : List Nat) (t : Nat) (base : Nat) (v : Value) (w : World) (v6 v7 : Value) (wr : World) : Prop :=
  ∃ n : Nat, n ≤ d.length ∧ v6 = .int .u64 (sumT d n : Nat) ∧ v7 = .int .i64 n ∧ fw (d.drop n) t (sumT d n) n = fw d t 0 0 ∧ Own wr base v d ∧ Ext w wr

set_option maxRecDepth 100000 in
set_option maxHeartbeats 4000000 in
theorem fewest_c (l : List Nat) (t : Nat) (a : Option Addr) (c : Nat) (w : World) (ha : Rd w a l) (hl : l.length ≤ 24) (hs : smallL l = true) :
    Calls Try.prog 23 #[.slice a l.length c, .int .u64 (t : Int)] w fun e w' => e = .returned (.int .i64 (fewM l t)) ∧ Ext w w' := by
  have HA := Lib.hid ha
  have CC := Lib.hid (fun w' (h : Rd w' a l) => Clone_c l a c w' h (by omega))
  have SC := Lib.hid (fun w' v (h : Own w' w.heap.size v l) => Sort_own w.heap.size v l w' h (by omega))
  have RC := Lib.hid (fun w' v (h : Own w' w.heap.size v (srt l)) => Reverse_own w.heap.size v (srt l) w' h (by rw [srt_len]; omega))
  have hd := dsc_len l
  have hds := dsc_small hs
  have hsum := sumT_le hds
  have E0 : Hid (fewM l t = fw (dsc l) t 0 0) := Lib.hid rfl
  have ED : Hid ((srt l).reverse = dsc l) := Lib.hid rfl
  obtain ⟨d, hdd⟩ : ∃ d, d = dsc l := ⟨_, rfl⟩
  rw [← hdd] at hd hds hsum E0 ED
  have HDS := Lib.hid hds
  have HSUM := Lib.hid hsum
  clear ha hs hds hsum hdd
  go_enter Try.func23, Try.ntmps23
  go_wp2_with fail
  refine (CC.out _ HA.out).mono ?_; rintro e w1 ⟨v, rfl, o1, x1⟩
  have O1 := Lib.hid o1
  have X1 := Lib.hid x1
  clear o1 x1
  go_wp2_with fail
  refine (SC.out _ _ O1.out).mono ?_; rintro e w2 ⟨rfl, o2, x2⟩
  have O2 := Lib.hid o2
  have X2 := Lib.hid (x2 _ X1.out (Nat.le_refl _))
  clear o2 x2
  go_wp2_with fail
  refine (RC.out _ _ O2.out).mono ?_; rintro e w3 ⟨rfl, o3, x3⟩
  rw [ED.out] at o3
  have O3 := Lib.hid o3
  have X3 := Lib.hid (x3 _ X2.out (Nat.le_refl _))
  clear o3 x3
  go_wp2_with fail
  go_loopw [6, 7] (FwRel d t w.heap.size v w) (fun _ i _ => d.length + 1 - (intOf i).toNat)
  case atStart => exact ⟨0, Nat.zero_le _, rfl, rfl, rfl, O3.out, X3.out⟩
  case round =>
    obtain ⟨n, hn, rfl, rfl, hf, ho, hx⟩ := hrel
    have HF := Lib.hid hf
    have HO := Lib.hid ho
    have HX := Lib.hid hx
    have hsn := HSUM.out n hn
    obtain ⟨A, C, hv, _, _, hr⟩ := ho.form
    have HR := Lib.hid hr
    by_cases hq : t ≤ sumT d n
    · have E : Hid (fw d t 0 0 = (n : Int)) := Lib.hid (by
        rw [← HF.out]
        cases hdr : d.drop n with
        | nil => simp only [fw, if_pos hq]
        | cons x r => simp only [fw, if_pos hq])
      obtain ⟨s, hs0⟩ : ∃ s, s = sumT d n := ⟨_, rfl⟩
      rw [← hs0] at hq ⊢
      clear hf ho hx hr hs0 hv
      go_wp2_with fail
      go_ret
      exact ⟨by rw [E0.out, E.out]; rfl, HX.out⟩
    · by_cases hlt : n < d.length
      · have hstep : fw (d.drop (n + 1)) t (sumT d (n + 1)) (n + 1) = fw d t 0 0 := by
          rw [← HF.out, drop_cons d n hlt]; simp only [fw, if_neg hq]; rfl
        obtain ⟨g, off, hA, hc⟩ := hr.at (by omega)
        have cn := hc n hlt
        have hsn1 := HSUM.out (n + 1) hlt
        have hS : sumT d (n + 1) = sumT d n + d.getD n 0 := rfl
        rw [hA] at hv
        have HV := Lib.hid hv
        have HST := Lib.hid hstep
        have HS1 := Lib.hid hS
        rw [hS] at hsn1
        obtain ⟨s, hs0⟩ : ∃ s, s = sumT d n := ⟨_, rfl⟩
        obtain ⟨x, hx0⟩ : ∃ x, x = d.getD n 0 := ⟨_, rfl⟩
        rw [← hs0] at hq hsn hsn1 HS1 ⊢
        rw [← hx0] at cn hsn1 HS1
        have hne : ((n : Int) == (d.length : Int)) = false := beq_eq_false_iff_ne.2 (by omega)
        subst hv
        clear hf ho hx hr hs0 hx0 hc hstep hA hS
        go_wp2_with fail
        go_roundw
        case rel => exact ⟨n + 1, by omega, by rw [HS1.out]; go_num, by go_num, HST.out, HO.out, HX.out⟩
        case measure => simp [intOf]; omega
      · have E : Hid (fw d t 0 0 = -1) := Lib.hid (by
          rw [← HF.out, List.drop_eq_nil_of_le (by omega)]; simp only [fw, if_neg hq])
        obtain rfl : n = d.length := by omega
        obtain ⟨s, hs0⟩ : ∃ s, s = sumT d d.length := ⟨_, rfl⟩
        rw [← hs0] at hq ⊢
        subst hv
        have hne : ((d.length : Int) == (d.length : Int)) = true := by simp
        clear hf ho hx hr hs0
        go_wp2_with fail
        go_ret
        exact ⟨by rw [E0.out, E.out]; rfl, HX.out⟩
end Go.Proofs.Ytndiaamoapidoaa
