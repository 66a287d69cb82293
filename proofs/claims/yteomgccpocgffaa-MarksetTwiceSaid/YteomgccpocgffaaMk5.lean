/- Contracts: the document's Remove; own, same. -/
import Derived.Test.YteomgccpocgffaaMk4
import Derived.Test.YteomgccpocgffaaRef1
namespace Go.Proofs.Yteomgccpocgffaa
open Go.RowKit

def RrRel (s l : List Nat) (w : World) (v i : Value) (wr : World) : Prop :=
  ∃ (j : Nat) (a : Option Addr) (n c : Nat), i = .int .i64 j ∧ j ≤ l.length ∧ (l.take j).Nodup ∧ (∀ x ∈ l.take j, x ∈ s) ∧ v = .slice a n c ∧ n = (lessL s (l.take j)).length ∧ Rd wr a (lessL s (l.take j)) ∧ Ext w wr
def neL (l : List Nat) (x : Nat) : List Nat := l.filter fun y => decide (y ≠ x)
def RqRel (m : List Nat) (x : Nat) (w : World) (v i : Value) (wr : World) : Prop := ∃ j : Nat, i = .int .i64 j ∧ j ≤ m.length ∧ Own wr w.heap.size v (neL (m.take j) x) ∧ Ext w wr
theorem neL_len (l : List Nat) (x : Nat) : (neL l x).length ≤ l.length := List.length_filter_le _ _
theorem lessL_ne (s l : List Nat) (x : Nat) : neL (lessL s l) x = lessL s (l ++ [x]) := by
  unfold neL lessL
  rw [List.filter_filter]
  refine List.filter_congr fun y _ => ?_
  by_cases e : y = x
  · subst e; simp
  · simp [e]
theorem remOk_mk {m l : List Nat} (h1 : l.Nodup) (h2 : ∀ x ∈ l, x ∈ m) : remOk m l = true := by
  unfold remOk anyc dupl
  simp only [Bool.not_eq_true', Bool.or_eq_false_iff, List.any_eq_false, Bool.not_eq_false', decide_eq_true_eq, beq_false]
  exact ⟨fun x hx => by simpa using h2 x hx, h1⟩
theorem lessL_len (s l : List Nat) : (lessL s l).length ≤ s.length := List.length_filter_le _ _

set_option maxRecDepth 100000 in
set_option maxHeartbeats 4000000 in
theorem RRemove38_c (s l : List Nat) (a b : Option Addr) (c d : Nat) (w : World) (ha : Rd w a s) (hb : Rd w b l) (hl : l.length ≤ 100000) (hsl : s.length ≤ 100000) :
    Calls Try.prog 24 #[.slice a s.length c, .slice b l.length d] w (RpPost w (rRes s l) (rErr s l)) := by
  have HA := Lib.hid ha
  have HB := Lib.hid hb
  clear ha hb
  go_enter Try.func24, Try.ntmps24
  go_wp2_with fail
  go_loopw [6, 7] (RrRel s l w) (fun _ i _ => l.length - (intOf i).toNat)
  case atStart => exact ⟨0, a, s.length, c, rfl, Nat.zero_le _, by simp, by simp, rfl, by rw [List.take_zero, lessL_nil], by rw [List.take_zero, lessL_nil]; exact HA.out, Ext.refl _⟩
  case round =>
    obtain ⟨j, a1, n1, c1, rfl, hj, hn, hal, rfl, hn1, hr, hx⟩ := hrel
    have HN := Lib.hid hn
    have HAL := Lib.hid hal
    have HN1 := Lib.hid hn1
    have HX := Lib.hid hx
    have hlen := lessL_len s (l.take j)
    by_cases hlt : j < l.length
    · have Esn : Hid (neL (lessL s (l.take j)) (l.getD j 0) = lessL s (l.take (j + 1))) := Lib.hid (by rw [lessL_ne, ← take_snoc l j hlt])
      have HNx : Hid (l.getD j 0 ∈ lessL s (l.take j) → (l.take (j + 1)).Nodup ∧ ∀ x ∈ l.take (j + 1), x ∈ s) := Lib.hid (fun hq => by
        rw [lessL_mem] at hq
        refine ⟨nodup_step hlt HN.out hq.2, fun x hx => ?_⟩
        rw [take_snoc l j hlt, List.mem_append, List.mem_singleton] at hx
        rcases hx with h | h
        · exact HAL.out x h
        · rw [h]; exact hq.1)
      have E : Hid (l.getD j 0 ∉ lessL s (l.take j) → remOk s l = false) := Lib.hid (fun hq => by
        cases h : remOk s l
        · rfl
        · obtain ⟨k1, k2⟩ := remOk_spec h
          refine absurd (lessL_mem.2 ⟨k2 _ (getD_mem hlt), fun hm => ?_⟩) hq
          have h2 : (l.take (j + 1)).Nodup := List.Nodup.sublist (List.take_sublist _ _) k1
          rw [take_snoc l j hlt, List.nodup_append] at h2
          exact h2.2.2 _ hm _ (by simp) rfl)
      obtain ⟨M, hM⟩ : ∃ M, M = lessL s (l.take j) := ⟨_, rfl⟩
      rw [← hM] at hr hn1 hlen Esn HNx E
      have HR := Lib.hid hr
      have HC := Lib.hid (fun w' x (h : Rd w' a1 M) => RHas_c M x a1 c1 w' h (by omega))
      rw [← hn1] at HC
      have HML := Lib.hid hn1
      obtain ⟨gb, ob, rfl, hcb⟩ := HB.out.at (by omega)
      have cj := hx.cell (hcb j hlt)
      have HCJ := Lib.hid (fun w' (h : Ext wr w') => h.cell cj)
      by_cases hq : l.getD j 0 ∈ M
      · have HNX := Lib.hid (HNx.out hq)
        have HQ := Lib.hid (decide_eq_true hq)
        obtain ⟨x, hx0⟩ : ∃ x, x = l.getD j 0 := ⟨_, rfl⟩
        rw [← hx0] at cj HQ HCJ Esn
        have hml : M.length ≤ 100000 := by omega
        clear hcb hq hx hx0 HNx E hM hlen hal hn hr hn1
        go_wp2_with fail
        refine (HC.out _ _ HR.out).mono ?_; rintro e w1 ⟨rfl, x1⟩; rw [HQ.out]
        have CJ1 := Lib.hid (HCJ.out _ x1)
        have HX1 := Lib.hid (HX.out.trans x1)
        have HR1 := Lib.hid (HR.out.ext x1)
        clear x1
        go_wp2_with fail
        go_loopw [8, 9] (RqRel M x w1) (fun _ i _ => M.length - (intOf i).toNat)
        case atStart => exact ⟨0, rfl, Nat.zero_le _, by rw [List.take_zero]; exact Own.nil _ _, Ext.refl _⟩
        case round =>
          obtain ⟨k, rfl, hk, ho, hx⟩ := hrel
          have HO := Lib.hid ho
          have HX2 := Lib.hid hx
          have hln := neL_len (M.take k) x
          rw [List.length_take] at hln
          have n1e := HML.out
          clear ho
          by_cases hlt2 : k < M.length
          · obtain ⟨ga, oa, rfl, hca⟩ := HR1.out.at (by omega)
            have ck := hx.cell (hca k hlt2)
            have cl := hx.cell CJ1.out
            have hf : Hid (neL (M.take (k + 1)) x = neL (M.take k) x ++ if decide (M.getD k 0 ≠ x) then [M.getD k 0] else []) := Lib.hid (filter_snoc _ M k hlt2)
            obtain ⟨y, hy⟩ : ∃ y, y = M.getD k 0 := ⟨_, rfl⟩
            rw [← hy] at ck hf
            have hkn : k < n1 := by omega
            by_cases hq : y = x
            · have hf2 : Hid (neL (M.take (k + 1)) x = neL (M.take k) x) := Lib.hid (by rw [hf.out, hq]; simp)
              have t1 : ((y : Int) != (x : Int)) = false := by rw [hq]; simp
              clear hca hy hq hf hx n1e
              go_wp2_with fail
              go_region
              go_wp2_with fail
              go_roundw
              case rel => exact ⟨k + 1, by go_num, by omega, by rw [hf2.out]; exact HO.out.grow (Ext.refl _).drew, HX2.out.drew⟩
              case measure => simp [intOf]; omega
            · have hf2 : Hid (neL (M.take (k + 1)) x = neL (M.take k) x ++ [y]) := Lib.hid (by rw [hf.out]; simp [hq])
              have t1 : ((y : Int) != (x : Int)) = true := bne_iff_ne.2 (by omega)
              have he := (Ext.refl wr.drew).alloc (.cells #[.int .u64 (y : Int)] 23)
              have hg1 : (wr.drew.alloc (.cells #[.int .u64 (y : Int)] 23)).cell? ⟨wr.heap.size, 0, none⟩ = some (.int .u64 (y : Nat)) := (cnew wr.drew #[.int .u64 (y : Int)] _ wr.heap.size 0 rfl).trans rfl
              have HE := Lib.hid he
              clear hca hy hq hf hx he n1e
              go_wp2_with fail
              go_region
              go_wp2_with (at_builtin; refine wpList_app1 rfl (.tmp 40) (.tmp 45) rfl w1.heap.size _ _ rfl ((HO.out.grow (Ext.refl _).drew).grow HE.out) wr.heap.size y 1 rfl hg1 (by omega) (HX2.out.drew.trans HE.out).size ?_; intro v' w3 hown3 hx3 _)
              go_roundw
              case rel => exact ⟨k + 1, by go_num, by omega, by rw [hf2.out]; exact hown3, hx3 _ (HX2.out.drew.trans HE.out) (Nat.le_refl _)⟩
              case measure => simp [intOf]; omega
          · have HO2 : Hid (Own wr w1.heap.size u8 (neL M x)) := Lib.hid (by have := HO.out; rw [List.take_of_length_le (by omega)] at this; exact this)
            have hkn : ¬ k < n1 := by omega
            rw [Esn.out] at HO2
            obtain ⟨a3, c3, hv, _, _, r3⟩ := HO2.out.form
            have HV := Lib.hid hv
            have HR3 := Lib.hid r3
            have HX3 := Lib.hid (HX1.out.trans hx)
            clear hx hv r3 n1e
            go_wp2_with fail
            go_roundw
            case rel => exact ⟨j + 1, a3, _, c3, by go_num, by omega, HNX.out.1, HNX.out.2, HV.out, rfl, HR3.out, HX3.out⟩
            case measure => simp [intOf]; omega
      · have E2 := Lib.hid (E.out hq)
        have HQ := Lib.hid (decide_eq_false hq)
        obtain ⟨x, hx0⟩ : ∃ x, x = l.getD j 0 := ⟨_, rfl⟩
        rw [← hx0] at cj HQ
        clear hcb hq hx hx0 HNx E hM hlen hal hn hr hn1 HCJ Esn
        go_wp2_with fail
        refine (HC.out _ _ HR.out).mono ?_; rintro e w1 ⟨rfl, x1⟩; rw [HQ.out]
        go_wp2_with fail
        go_ret2
        refine ⟨a, c, ?_, ?_, HX.out.trans x1⟩
        · unfold rRes rErr; rw [E2.out]; simp
        · unfold rRes; rw [E2.out]; simp only [Bool.false_eq_true, if_false]; exact HA.out.ext (HX.out.trans x1)
    · have E : Hid (remOk s l = true) := Lib.hid (by
        have h1 := HN.out
        have h2 := HAL.out
        rw [List.take_of_length_le (by omega)] at h1 h2
        exact remOk_mk h1 h2)
      have HR2 : Hid (Rd wr a1 (lessL s l)) := Lib.hid (by rw [List.take_of_length_le (by omega)] at hr; exact hr)
      have HL : Hid (n1 = (lessL s l).length) := Lib.hid (by have := HN1.out; rw [List.take_of_length_le (by omega)] at this; exact this)
      clear hx hr hal hn hn1 hlen
      go_wp2_with fail
      go_ret2
      refine ⟨a1, c1, ?_, ?_, HX.out⟩
      · unfold rRes rErr; rw [E.out, HL.out]; simp
      · unfold rRes; rw [E.out]; simp only [if_true]; exact HR2.out

set_option maxHeartbeats 1000000 in
theorem own38_c (l : List Nat) (a : Option Addr) (c : Nat) (w : World) (ha : Rd w a l) (hl : l.length ≤ 1000000) :
    Calls Try.prog 17 #[.slice a l.length c] w (SlPost w l) := by
  have HO : Hid (Own (w.alloc (.cells #[] 23)) w.heap.size (.slice (some ⟨w.heap.size, 0, none⟩) 0 0) []) := Lib.hid (by
    have hb : Blk (w.alloc (.cells #[] 23)) w.heap.size (rowA ([] ++ [])) := Blk.new _ _
    exact Own.ofBlk hb (Nat.le_refl _) (by simp [maxLen]))
  have HA := Lib.hid ha
  clear ha
  go_enter Try.func17, Try.ntmps17
  go_wp2_with (at_builtin; refine wpList_app rfl (.tmp 3) (.tmp 4) rfl w.heap.size _ _ rfl HO.out a l c rfl (HA.out.ext ((Ext.refl _).alloc _)) (by simp; omega) (by simp) ?_; intro v' w2 hown2 hx2 _)
  go_ret
  rw [List.nil_append] at hown2
  exact ⟨v', rfl, hown2, hx2 w ((Ext.refl _).alloc _) (Nat.le_refl _)⟩

set_option maxRecDepth 100000 in
set_option maxHeartbeats 1000000 in
theorem same_c (m : List Nat) (a : Option Addr) (c ps b : Nat) (w : World) (hs : St w ps b m) (hm : Asc m) (ha : Rd w a m) (hl : m.length ≤ 100000) :
    Calls Try.prog 21 #[.pointer (some ⟨ps, 0, none⟩), .slice a m.length c] w fun e w' => e = .returned (.bool true) ∧ Ext w w' := by
  have HS := Lib.hid hs
  have HA := Lib.hid ha
  have LC := Lib.hid (fun w' (h : St w' ps b m) => Len_c m ps b w' h)
  have IC := fun w' (h : St w' ps b m) => List_c m ps b w' h hm.nodup hl
  rw [hm.srt] at IC
  have HIC := Lib.hid IC
  clear hs ha IC hm
  have t1 : ((m.length : Int) == (m.length : Int)) = true := by simp
  go_enter Try.func21, Try.ntmps21
  go_wp2_with fail
  refine (LC.out _ HS.out).mono ?_; rintro e w1 ⟨rfl, x1⟩
  go_wp2_with fail
  refine (HIC.out _ (HS.out.ext x1)).mono ?_; rintro e w2 ⟨v, rfl, ho, x2⟩
  obtain ⟨a2, c2, rfl, _, _, r2⟩ := ho.form
  go_wp2_with fail
  refine (Same_c m a2 a c2 c _ r2 (HA.out.ext (x1.trans x2)) (by omega)).mono ?_; rintro e w3 ⟨rfl, x3⟩
  go_wp2_with fail
  go_ret
  exact ⟨rfl, x1.trans (x2.trans x3)⟩
end Go.Proofs.Yteomgccpocgffaa
