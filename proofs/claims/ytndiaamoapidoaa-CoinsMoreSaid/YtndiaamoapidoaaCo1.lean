/- Contracts of package coins: examine, Clone, Reverse, fewest. -/
import Derived.Test.YtndiaamoapidoaaSrt
import Derived.Test.YtndiaamoapidoaaSlI
import Derived.Test.YtndiaamoapidoaaPlain
namespace Go.Proofs.Ytndiaamoapidoaa
open Go.RowKit

theorem getD_mem {l : List Nat} {i : Nat} (h : i < l.length) : l.getD i 0 ∈ l := by
  rw [List.getD_eq_getElem?_getD, List.getElem?_eq_getElem h]; exact List.getElem_mem h
theorem getD_of_mem {l : List Nat} {x : Nat} (h : x ∈ l) : ∃ i, i < l.length ∧ l.getD i 0 = x := by
  obtain ⟨i, hi, rfl⟩ := List.mem_iff_getElem.1 h
  exact ⟨i, hi, by rw [List.getD_eq_getElem?_getD, List.getElem?_eq_getElem hi]; rfl⟩
/-- All values are amounts. -/
def smallL (l : List Nat) : Bool := decide (∀ i, i < l.length → l.getD i 0 ≤ 4294967295)
def exE (l : List Nat) : Int := if 24 < l.length then 3 else if smallL l then 0 else 1
def ExRel (l : List Nat) (w : World) (s : Value) (wr : World) : Prop := ∃ j : Nat, s = .int .i64 j ∧ j ≤ l.length ∧ (∀ i, i < j → l.getD i 0 ≤ 4294967295) ∧ Ext w wr

set_option maxRecDepth 100000 in
set_option maxHeartbeats 2000000 in
theorem examine_c (l : List Nat) (a : Option Addr) (c : Nat) (w : World) (ha : Rd w a l) (hl : l.length ≤ 9223372036854775807) :
    Calls Try.prog 22 #[.slice a l.length c] w fun e w' => e = .returned (.int .i64 (exE l)) ∧ Ext w w' := by
  have HA := Lib.hid ha
  clear ha
  by_cases h24 : 24 < l.length
  case pos =>
    have E : Hid (exE l = 3) := Lib.hid (by unfold exE; rw [if_pos h24])
    have t1 : decide ((24 : Int) < (l.length : Int)) = true := decide_eq_true (by omega)
    clear h24
    go_enter Try.func22, Try.ntmps22
    go_wp2_with fail
    go_ret
    exact ⟨by rw [E.out]; rfl, Ext.refl _⟩
  have t1 : decide ((24 : Int) < (l.length : Int)) = false := decide_eq_false (by omega)
  go_enter Try.func22, Try.ntmps22
  go_wp2_with fail
  go_loopw [10] (ExRel l w) (fun i _ => l.length - (intOf i).toNat)
  case atStart => exact ⟨0, rfl, Nat.zero_le _, fun i hi => absurd hi (by omega), Ext.refl _⟩
  case round =>
    obtain ⟨j, rfl, hj, hall, hx⟩ := hrel
    have HALL := Lib.hid hall
    have HX := Lib.hid hx
    clear hall
    by_cases hlt : j < l.length
    · obtain ⟨ga, oa, rfl, hca⟩ := HA.out.at (by omega)
      have cj := hx.cell (hca j hlt)
      by_cases hq : l.getD j 0 ≤ 4294967295
      · have A2 : Hid (∀ i, i < j + 1 → l.getD i 0 ≤ 4294967295) := Lib.hid (fun i hi => by
          by_cases e : i = j
          · subst e; exact hq
          · exact HALL.out i (by omega))
        obtain ⟨y, hy⟩ : ∃ y, y = l.getD j 0 := ⟨_, rfl⟩
        rw [← hy] at cj hq
        have t2 : decide ((4294967295 : Int) < (y : Int)) = false := decide_eq_false (by omega)
        clear hca hx hy
        go_wp2_with fail
        go_roundw
        case rel => exact ⟨j + 1, by go_num, by omega, A2.out, HX.out⟩
        case measure => simp [intOf]; omega
      · have E : Hid (exE l = 1) := Lib.hid (by
          unfold exE smallL; rw [if_neg h24, decide_eq_false (fun h => hq (h j hlt))]; rfl)
        obtain ⟨y, hy⟩ : ∃ y, y = l.getD j 0 := ⟨_, rfl⟩
        rw [← hy] at cj hq
        have t2 : decide ((4294967295 : Int) < (y : Int)) = true := decide_eq_true (by omega)
        clear hca hx hy
        go_wp2_with fail
        go_ret
        exact ⟨by rw [E.out]; rfl, HX.out⟩
    · have E : Hid (exE l = 0) := Lib.hid (by
        unfold exE smallL; rw [if_neg h24, decide_eq_true (fun i hi => HALL.out i (by omega))]; rfl)
      clear hx
      go_wp2_with fail
      go_ret
      exact ⟨by rw [E.out]; rfl, HX.out⟩

set_option maxHeartbeats 1000000 in
theorem Clone_c (l : List Nat) (a : Option Addr) (c : Nat) (w : World) (ha : Rd w a l) (hl : l.length ≤ 1000000) :
    Calls Try.prog 27 #[.slice a l.length c] w (SlPost w l) := by
  have HO : Hid (Own (w.alloc (.cells #[] 23)) w.heap.size (.slice (some ⟨w.heap.size, 0, none⟩) 0 0) []) := Lib.hid (by
    have hb : Blk (w.alloc (.cells #[] 23)) w.heap.size (rowA ([] ++ [])) := Blk.new _ _
    exact Own.ofBlk hb (Nat.le_refl _) (by simp [maxLen]))
  have HA := Lib.hid ha
  have qT : ∀ (w : World) (r : Option Addr) (n c : Nat), (binOp .eql 22 (.slice r n c) (.slice none 0 0)).run Try.prog w = .ok (.bool r.isNone) w := fun w r n c => Lib.run_eql_slice_nil w _ _ r n c 0 0 Try.underlying22
  cases a with
  | none =>
    have hn : Hid (l = []) := Lib.hid (by
      rcases ha with h | ⟨b, off, hb, _⟩
      · exact h
      · cases hb)
    clear ha
    go_enter Try.func27, Try.ntmps27
    go_wp2_with fail
    go_ret
    exact ⟨_, rfl, by rw [hn.out]; exact Own.nil _ _, Ext.refl _⟩
  | some ad =>
    clear ha
    go_enter Try.func27, Try.ntmps27
    go_wp2_with (at_builtin; refine wpList_app rfl (.tmp 5) (.tmp 6) rfl w.heap.size _ _ rfl HO.out (some ad) l c rfl (HA.out.ext ((Ext.refl _).alloc _)) (by simp; omega) (by simp) ?_; intro v' w2 hown2 hx2 _)
    go_ret
    rw [List.nil_append] at hown2
    exact ⟨v', rfl, hown2, hx2 w ((Ext.refl _).alloc _) (Nat.le_refl _)⟩
end Go.Proofs.Ytndiaamoapidoaa
