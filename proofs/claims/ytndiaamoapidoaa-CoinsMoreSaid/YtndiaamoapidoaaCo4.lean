/- Contracts of the document's coins: Error, Sum, Ascending; own. -/
import Derived.Test.YtndiaamoapidoaaCo3
namespace Go.Proofs.Ytndiaamoapidoaa
open Go.RowKit

def rE (l : List Nat) (most : Int) : Int := if 24 < l.length then 3 else if smallL l then (if most < 0 then 1 else 0) else 1
set_option maxRecDepth 100000 in
set_option maxHeartbeats 2000000 in
theorem RError_c (l : List Nat) (most : Int) (a : Option Addr) (c : Nat) (w : World) (ha : Rd w a l) (hl : l.length ≤ 9223372036854775807) :
    Calls Try.prog 13 #[.slice a l.length c, .int .i64 most] w fun e w' => e = .returned (.int .i64 (rE l most)) ∧ Ext w w' := by
  have HA := Lib.hid ha
  clear ha
  by_cases h24 : 24 < l.length
  case pos =>
    have E : Hid (rE l most = 3) := Lib.hid (by unfold rE; rw [if_pos h24])
    have t1 : decide ((24 : Int) < (l.length : Int)) = true := decide_eq_true (by omega)
    clear h24
    go_enter Try.func13, Try.ntmps13
    go_wp2_with fail
    go_ret
    exact ⟨by rw [E.out]; rfl, Ext.refl _⟩
  have t1 : decide ((24 : Int) < (l.length : Int)) = false := decide_eq_false (by omega)
  go_enter Try.func13, Try.ntmps13
  go_wp2_with fail
  go_loopw [5] (ExRel l w) (fun i _ => l.length - (intOf i).toNat)
  case atStart => exact ⟨0, rfl, Nat.zero_le _, fun i hi => absurd hi (by omega), Ext.refl _⟩
  case round =>
    obtain ⟨j, rfl, hj, hall, hx⟩ := hrel
    have HALL := Lib.hid hall
    have HX := Lib.hid hx
    clear hall
    by_cases hlt : j < l.length
    · obtain ⟨ga, oa, rfl, hca⟩ := HA.out.at (by omega)
      have cj := hx.cell (hca j hlt)
      by_cases hq : l.getD j 0 ≤ 4294967295
      · have A2 : Hid (∀ i, i < j + 1 → l.getD i 0 ≤ 4294967295) := Lib.hid (fun i hi => by
          by_cases e : i = j
          · subst e; exact hq
          · exact HALL.out i (by omega))
        obtain ⟨y, hy⟩ : ∃ y, y = l.getD j 0 := ⟨_, rfl⟩
        rw [← hy] at cj hq
        have t2 : decide ((4294967295 : Int) < (y : Int)) = false := decide_eq_false (by omega)
        clear hca hx hy
        go_wp2_with fail
        go_roundw
        case rel => exact ⟨j + 1, by go_num, by omega, A2.out, HX.out⟩
        case measure => simp [intOf]; omega
      · have E : Hid (rE l most = 1) := Lib.hid (by
          unfold rE smallL; rw [if_neg h24, decide_eq_false (fun h => hq (h j hlt))]; rfl)
        obtain ⟨y, hy⟩ : ∃ y, y = l.getD j 0 := ⟨_, rfl⟩
        rw [← hy] at cj hq
        have t2 : decide ((4294967295 : Int) < (y : Int)) = true := decide_eq_true (by omega)
        clear hca hx hy
        go_wp2_with fail
        go_ret
        exact ⟨by rw [E.out]; rfl, HX.out⟩
    · have E : Hid (rE l most = if most < 0 then 1 else 0) := Lib.hid (by
        unfold rE smallL; rw [if_neg h24, decide_eq_true (fun i hi => HALL.out i (by omega))]; rfl)
      clear hx
      by_cases hm : most < 0
      · have E2 : Hid (rE l most = 1) := Lib.hid (by rw [E.out, if_pos hm])
        go_wp2_with fail
        go_ret
        exact ⟨by rw [E2.out]; rfl, HX.out⟩
      · have E2 : Hid (rE l most = 0) := Lib.hid (by rw [E.out, if_neg hm])
        have t3 : decide (most < 0) = false := decide_eq_false hm
        go_wp2_with fail
        go_ret
        exact ⟨by rw [E2.out]; rfl, HX.out⟩
set_option maxHeartbeats 1000000 in
theorem own50_c (l : List Nat) (a : Option Addr) (c : Nat) (w : World) (ha : Rd w a l) (hl : l.length ≤ 1000000) :
    Calls Try.prog 12 #[.slice a l.length c] w (SlPost w l) := by
  have HO : Hid (Own (w.alloc (.cells #[] 23)) w.heap.size (.slice (some ⟨w.heap.size, 0, none⟩) 0 0) []) := Lib.hid (by
    have hb : Blk (w.alloc (.cells #[] 23)) w.heap.size (rowA ([] ++ [])) := Blk.new _ _
    exact Own.ofBlk hb (Nat.le_refl _) (by simp [maxLen]))
  have HA := Lib.hid ha
  clear ha
  go_enter Try.func12, Try.ntmps12
  go_wp2_with (at_builtin; refine wpList_app rfl (.tmp 3) (.tmp 4) rfl w.heap.size _ _ rfl HO.out a l c rfl (HA.out.ext ((Ext.refl _).alloc _)) (by simp; omega) (by simp) ?_; intro v' w2 hown2 hx2 _)
  go_ret
  rw [List.nil_append] at hown2
  exact ⟨v', rfl, hown2, hx2 w ((Ext.refl _).alloc _) (Nat.le_refl _)⟩
end Go.Proofs.Ytndiaamoapidoaa
