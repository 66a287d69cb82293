/- The document's Add, with the place of its result. -/
import Derived.Test.YteomgccpocgffaaMk6
namespace Go.Proofs.Yteomgccpocgffaa
open Go.RowKit
theorem Own.fresh {w : World} {base : Nat} {a : Option Addr} {n c : Nat} {l : List Nat} (h : Own w base (.slice a n c) l) (p : Addr) (hp : a = some p) : base ≤ p.block := by
  rcases h.2 with ⟨hv, _⟩ | ⟨g, cap, cur, hv, hb, _⟩
  · injection hv with h1 _ _; rw [hp] at h1; cases h1
  · injection hv with h1 _ _
    rw [hp] at h1
    cases h1
    exact hb
def RxPost (w : World) (a0 : Option Addr) (s l : List Nat) (n : Int) (e : Ending) (w' : World) : Prop := ∃ a c, e = .returned (.tuple #[.slice a l.length c, .int .i64 n]) ∧ Rd w' a l ∧ Ext w w' ∧ ((a = a0 ∧ l = s) ∨ ∀ p : Addr, a = some p → w.heap.size ≤ p.block)
def RxRel (a0 : Option Addr) (s l : List Nat) (w : World) (v i : Value) (wr : World) : Prop :=
  ∃ (j : Nat) (a : Option Addr) (n c : Nat), i = .int .i64 j ∧ j ≤ l.length ∧ (s ++ l.take j).Nodup ∧ v = .slice a n c ∧ n = (srt (s ++ l.take j)).length ∧ Rd wr a (srt (s ++ l.take j)) ∧ Ext w wr ∧ ((a = a0 ∧ srt (s ++ l.take j) = s) ∨ ∀ p : Addr, a = some p → w.heap.size ≤ p.block)

set_option maxRecDepth 100000 in
set_option maxHeartbeats 4000000 in
theorem RAdd38_x (s l : List Nat) (a b : Option Addr) (c d : Nat) (w : World) (hs : Asc s) (ha : Rd w a s) (hb : Rd w b l) (hl : l.length ≤ 100000) (hsl : s.length ≤ 100000) :
    Calls Try.prog 23 #[.slice a s.length c, .slice b l.length d] w (RxPost w a s (srt (aRes s l)) (aErr s l)) := by
  have HA := Lib.hid ha
  have HB := Lib.hid hb
  have HS := Lib.hid hs
  clear ha hb hs
  go_enter Try.func23, Try.ntmps23
  go_wp2_with fail
  go_loopw [6, 7] (RxRel a s l w) (fun _ i _ => l.length - (intOf i).toNat)
  case atStart => exact ⟨0, a, s.length, c, rfl, Nat.zero_le _, by rw [List.take_zero, List.append_nil]; exact HS.out.nodup, rfl, by rw [srt_len]; simp, by rw [List.take_zero, List.append_nil, HS.out.srt]; exact HA.out, Ext.refl _, .inl ⟨rfl, by rw [List.take_zero, List.append_nil, HS.out.srt]⟩⟩
  case round =>
    obtain ⟨j, a1, n1, c1, rfl, hj, hn, rfl, hn1, hr, hx, hfr⟩ := hrel
    have HFR := Lib.hid hfr
    clear hfr
    have HN := Lib.hid hn
    have HR := Lib.hid hr
    have HX := Lib.hid hx
    have hlen : (srt (s ++ l.take j)).length ≤ 200000 := by rw [srt_len, List.length_append, List.length_take]; omega
    have HC := Lib.hid (fun w' x (h : Rd w' a1 (srt (s ++ l.take j))) => RHas_c (srt (s ++ l.take j)) x a1 c1 w' h (by omega))
    have PC := Lib.hid (fun w' x (h : Rd w' a1 (srt (s ++ l.take j))) => put_c (srt (s ++ l.take j)) x a1 c1 w' h (by omega))
    rw [← hn1] at HC PC
    have HN1 := Lib.hid hn1
    clear hn hr hlen hn1
    by_cases hlt : j < l.length
    · obtain ⟨gb, ob, rfl, hcb⟩ := HB.out.at (by omega)
      have cj := hx.cell (hcb j hlt)
      have HCJ := Lib.hid (fun w' (h : Ext wr w') => h.cell cj)
      by_cases hq : l.getD j 0 ∈ srt (s ++ l.take j)
      · have E : Hid (addOk s l = false) := Lib.hid (by
          cases h : addOk s l
          · rfl
          · rw [addOk_iff HS.out.nodup] at h
            have h2 : (s ++ l.take (j + 1)).Nodup := by
              refine List.Nodup.sublist ?_ h
              exact List.Sublist.append_left (List.take_sublist _ _) _
            rw [take_snoc l j hlt, ← List.append_assoc, List.nodup_append] at h2
            exact absurd rfl (h2.2.2 _ ((srt_perm _).mem_iff.1 hq) _ (by simp)))
        have HQ := Lib.hid (decide_eq_true hq)
        obtain ⟨x, hx0⟩ : ∃ x, x = l.getD j 0 := ⟨_, rfl⟩
        rw [← hx0] at cj HQ
        clear hcb hq hx hx0 HCJ PC
        go_wp2_with fail
        refine (HC.out _ _ HR.out).mono ?_; rintro e w1 ⟨rfl, x1⟩; rw [HQ.out]
        go_wp2_with fail
        go_ret2
        refine ⟨a, c, ?_, ?_, HX.out.trans x1, .inl ⟨rfl, by unfold aRes; rw [E.out]; simp only [Bool.false_eq_true, if_false]; exact HS.out.srt⟩⟩
        · unfold aRes aErr; rw [E.out]; simp [srt_len]
        · unfold aRes; rw [E.out]; simp only [Bool.false_eq_true, if_false]; rw [HS.out.srt]; exact HA.out.ext (HX.out.trans x1)
      · have hnd : (s ++ l.take (j + 1)).Nodup := by
          rw [take_snoc l j hlt, ← List.append_assoc, List.nodup_append]
          refine ⟨HN.out, by simp, fun a ha b hb e => ?_⟩
          rw [List.mem_singleton] at hb
          subst hb; subst e
          exact hq ((srt_perm _).mem_iff.2 ha)
        have E : Hid (putL (srt (s ++ l.take j)) (l.getD j 0) = srt (s ++ l.take (j + 1))) := Lib.hid (by
          have h2 := hnd
          rw [take_snoc l j hlt, ← List.append_assoc] at h2 ⊢
          exact putL_srt h2)
        have HND := Lib.hid hnd
        have HQ := Lib.hid (decide_eq_false hq)
        obtain ⟨x, hx0⟩ : ∃ x, x = l.getD j 0 := ⟨_, rfl⟩
        rw [← hx0] at cj HQ E HCJ
        clear hcb hq hx hx0 hnd
        go_wp2_with fail
        refine (HC.out _ _ HR.out).mono ?_; rintro e w1 ⟨rfl, x1⟩; rw [HQ.out]
        have cj1 := HCJ.out _ x1
        have HX1 := Lib.hid x1
        clear x1
        go_wp2_with fail
        refine (PC.out _ _ (HR.out.ext HX1.out)).mono ?_; rintro e w2 ⟨v, rfl, ho, x2⟩
        rw [E.out] at ho
        obtain ⟨a3, c3, hv, _, _, r3⟩ := ho.form
        have HF3 : Hid (∀ p : Addr, a3 = some p → w.heap.size ≤ p.block) := Lib.hid (fun p hp => by
          subst hv
          exact Nat.le_trans (Nat.le_trans HX.out.size HX1.out.size) (ho.fresh p hp))
        have HV := Lib.hid hv
        have HR3 := Lib.hid r3
        have HX2 := Lib.hid (HX.out.trans (HX1.out.trans x2))
        clear hv r3 x2 ho
        go_wp2_with fail
        go_roundw
        case rel => exact ⟨j + 1, a3, _, c3, by go_num, by omega, HND.out, HV.out, rfl, HR3.out, HX2.out, .inr HF3.out⟩
        case measure => simp [intOf]; omega
    · have hnl : (s ++ l).Nodup := by have := HN.out; rw [List.take_of_length_le (by omega)] at this; exact this
      have E : Hid (addOk s l = true) := Lib.hid ((addOk_iff HS.out.nodup).2 hnl)
      have HR2 : Hid (Rd wr a1 (srt (s ++ l))) := Lib.hid (by have := HR.out; rw [List.take_of_length_le (by omega)] at this; exact this)
      have HL : Hid (n1 = (srt (s ++ l)).length) := Lib.hid (by have := HN1.out; rw [List.take_of_length_le (by omega)] at this; exact this)
      clear hx hnl
      go_wp2_with fail
      go_ret2
      refine ⟨a1, c1, ?_, ?_, HX.out, ?_⟩
      · unfold aRes aErr; rw [E.out, HL.out]; simp
      · unfold aRes; rw [E.out]; simp only [if_true]; exact HR2.out
      · have h1 := HFR.out
        rw [List.take_of_length_le (by omega)] at h1
        unfold aRes; rw [E.out]; simp only [if_true]; exact h1
end Go.Proofs.Yteomgccpocgffaa
