/- Contracts: slices.Reverse, coins.fewest. -/
import Derived.Test.YtndiaamoapidoaaCo1
namespace Go.Proofs.Ytndiaamoapidoaa
open Go.RowKit

def revF (l : List Nat) (k t : Nat) : Nat := if t < k ∨ l.length - k ≤ t then l.getD (l.length - 1 - t) 0 else l.getD t 0
theorem revF_zero (l : List Nat) : tab l.length (revF l 0) = l := by
  conv => rhs; rw [list_tab l]
  refine tab_congr fun t ht => ?_
  unfold revF; rw [if_neg (by omega)]
theorem revF_end (l : List Nat) (k : Nat) (h : l.length ≤ 2 * k + 1) : tab l.length (revF l k) = l.reverse := by
  apply List.ext_getElem?
  intro t
  by_cases ht : t < l.length
  · unfold tab
    rw [List.getElem?_map, List.getElem?_range ht]
    rw [List.getElem?_reverse ht]
    simp only [Option.map_some]
    unfold revF
    have hlt : l.length - 1 - t < l.length := by omega
    rw [List.getElem?_eq_getElem hlt]
    by_cases hq : t < k ∨ l.length - k ≤ t
    · rw [if_pos hq, List.getD_eq_getElem?_getD, List.getElem?_eq_getElem hlt]; rfl
    · rw [if_neg hq]
      have : t = l.length - 1 - t := by omega
      rw [List.getD_eq_getElem?_getD, List.getElem?_eq_getElem ht]
      simp only [Option.getD_some]
      congr 2
  · rw [List.getElem?_eq_none (by rw [tab_len]; omega), List.getElem?_eq_none (by simp; omega)]
theorem revF_step (l : List Nat) (k : Nat) (h : 2 * k + 1 < l.length) : ((tab l.length (revF l k)).set k (l.getD (l.length - 1 - k) 0)).set (l.length - 1 - k) (l.getD k 0) = tab l.length (revF l (k + 1)) := by
  rw [tab_set]
  refine tab_upd fun t ht => ?_
  unfold revF
  by_cases e1 : t = l.length - 1 - k
  · rw [if_pos e1, if_pos (by omega)]; congr 1; omega
  · rw [if_neg e1]
    by_cases e2 : t = k
    · subst e2; rw [if_pos rfl, if_pos (by omega)]
    · rw [if_neg e2]
      by_cases hq : t < k ∨ l.length - k ≤ t
      · rw [if_pos hq, if_pos (by omega)]
      · rw [if_neg hq, if_neg (by omega)]
def RvRel (l : List Nat) (g c : Nat) (w : World) (v2 v3 : Value) (wr : World) : Prop :=
  ∃ k : Nat, 2 * k ≤ l.length + 1 ∧ v2 = .int .i64 k ∧ v3 = .int .i64 ((l.length : Int) - 1 - (k : Int)) ∧ Arr wr g (tab l.length (revF l k)) c ∧ But g w wr

set_option maxRecDepth 100000 in
set_option maxHeartbeats 4000000 in
theorem Reverse_arr (g c : Nat) (l : List Nat) (w : World) (h : Arr w g l c) (hl : l.length ≤ 1000000) :
    Calls Try.prog 19 #[.slice (some ⟨g, 0, none⟩) l.length c] w fun e w' => e = .returned (.tuple #[]) ∧ Arr w' g l.reverse c ∧ But g w w' := by
  have HH := Lib.hid h
  clear h
  go_enter Try.func19, Try.ntmps19
  go_wp2_with fail
  go_loopw [2, 3] (RvRel l g c w) (fun i _ _ => l.length + 1 - (intOf i).toNat)
  case atStart => exact ⟨0, by omega, rfl, by simp, by rw [revF_zero]; exact HH.out, But.refl _ _⟩
  case round =>
    obtain ⟨k, hk, rfl, rfl, ha, hb⟩ := hrel
    have HA := Lib.hid ha
    have HB := Lib.hid hb
    by_cases hlt : 2 * k + 1 < l.length
    · obtain ⟨j, hj⟩ : ∃ j, j = l.length - 1 - k := ⟨_, rfl⟩
      have ej : (l.length : Int) - 1 - (k : Int) = (j : Int) := by omega
      have hjl : j < l.length := by omega
      have hkj : k < j := by omega
      have hkl : k < l.length := by omega
      have ck := ha.at (i := k) (by rw [tab_len]; omega)
      have cj := ha.at (i := j) (by rw [tab_len]; omega)
      rw [tab_get _ _ _ hkl, show revF l k k = l.getD k 0 from by unfold revF; rw [if_neg (by omega)]] at ck
      rw [tab_get _ _ _ hjl, show revF l k j = l.getD j 0 from by unfold revF; rw [if_neg (by omega)]] at cj
      have fk := ha.frozen k
      have fj := ha.frozen j
      have ST := Lib.hid (revF_step l k hlt)
      rw [← hj] at ST
      have HEJ := Lib.hid ej
      rw [ej]
      obtain ⟨x, hx0⟩ : ∃ x, x = l.getD k 0 := ⟨_, rfl⟩
      obtain ⟨y, hy0⟩ : ∃ y, y = l.getD j 0 := ⟨_, rfl⟩
      rw [← hx0] at ck ST
      rw [← hy0] at cj ST
      clear ha hb hj ej hx0 hy0
      go_wp2_with fail
      go_region
      go_wp2_with fail
      go_roundw
      case rel =>
        refine ⟨k + 1, by omega, by go_num, by have := HEJ.out; go_num, ?_, ?_⟩
        · rw [← ST.out]
          exact ((HA.out.set k y (by rw [tab_len]; omega)).set j x (by simp [tab_len]; omega)).ext (Ext.refl _).drew
        · exact (HB.out.trans ((But.set _ g k _).trans (But.set _ g j _))).trans ((Ext.refl _).drew.but g)
      case measure => simp [intOf]; omega
    · have E := Lib.hid (revF_end l k (by omega))
      have t1 : decide ((k : Int) < (l.length : Int) - 1 - (k : Int)) = false := decide_eq_false (by omega)
      clear ha hb
      go_wp2_with fail
      go_end0
      exact ⟨rfl, by rw [← E.out]; exact HA.out, HB.out⟩
end Go.Proofs.Ytndiaamoapidoaa
