/- Contracts of package poly, second part. -/
import Derived.Test.YtcnbinjoeilfgaaRef3
import Derived.Test.YtcnbinjoeilfgaaMap
namespace Go.Proofs.Ytcnbinjoeilfgaa
open Go.RowKit

theorem nodup_snoc (l : List Nat) (x : Nat) : (l ++ [x]).Nodup ↔ l.Nodup ∧ x ∉ l := by
  simp only [List.nodup_append, List.nodup_cons, List.not_mem_nil, not_false_eq_true, List.nodup_nil, and_self, true_and, List.mem_singleton, ne_eq]
  constructor
  · rintro ⟨h1, h2⟩; exact ⟨h1, fun hm => h2 x hm x rfl rfl⟩
  · rintro ⟨h1, h2⟩; exact ⟨h1, fun a ha b hb e => h2 (by rw [← hb, ← e]; exact ha)⟩

def DiffRel (p : Nat) (l : List Nat) (w0 : World) (g : Nat) (i : Value) (wr : World) : Prop :=
  ∃ k : Nat, i = .int .i64 k ∧ k ≤ l.length ∧ Seen wr g ((l.take k).map (fred p)).reverse ∧ ((l.take k).map (fred p)).Nodup ∧ Ext w0 wr

set_option maxHeartbeats 1000000 in
theorem different_c (p : Nat) (l : List Nat) (a : Option Addr) (c : Nat) (w : World) (ha : Rd w a l) (hl : l.length ≤ 1000000) :
    Calls Try.prog 60 #[.agg #[.int .u64 p], .slice a l.length c] w fun e w' => e = .returned (.bool (decide (l.map (fred p)).Nodup)) ∧ Ext w w' := by
  have hmk := run_makeMap_hint l.length
  go_enter Try.func60, Try.ntmps60
  go_wp2
  clear hmk
  go_loopw [13] (DiffRel p l (w.alloc (.cells #[.int .u64 p] 29)) (w.heap.size + 1)) (fun i _ => l.length - (intOf i).toNat)
  case atStart =>
    refine ⟨0, rfl, Nat.zero_le _, ?_, by simp, (Ext.refl _).alloc _⟩
    have := Seen.made (w.alloc (.cells #[.int .u64 p] 29))
    simpa using this
  case round =>
    obtain ⟨k, rfl, hk, hseen, hnd, hext⟩ := hrel
    have hc := hext.boxCell
    by_cases hlt : k < l.length
    · obtain ⟨b, off, rfl, hcell⟩ := ha.at (by omega)
      have c1 := (hext.box).cell (hcell k hlt)
      have hs := take_snoc l k hlt
      obtain ⟨x, hx0⟩ : ∃ x, x = l.getD k 0 := ⟨_, rfl⟩
      rw [← hx0] at c1 hs
      obtain ⟨L, hL0⟩ : ∃ L, L = (l.take k).map (fred p) := ⟨_, rfl⟩
      rw [← hL0] at hseen hnd
      have hs2 : (l.take (k + 1)).map (fred p) = L ++ [fred p x] := by rw [hs, hL0]; simp
      have hLl : L.length ≤ 1000000 := by rw [hL0]; simp; omega
      have HS2 := Lib.hid hs2
      have HS := Lib.hid hseen
      have HN := Lib.hid hnd
      clear hcell hx0 ha hs hL0 hs2 hseen hnd
      by_cases hin : fred p x ∈ L
      · have hres : decide (l.map (fred p)).Nodup = false := by
          rw [decide_eq_false_iff_not]
          intro hnd
          have h1 : ((l.take (k + 1)).map (fred p)).Nodup := by
            have h2 : (l.map (fred p)).take (k + 1) = (l.take (k + 1)).map (fred p) := by simp [List.map_take]
            rw [← h2]; exact hnd.sublist (List.take_sublist _ _)
          rw [HS2.out, nodup_snoc] at h1
          exact h1.2 hin
        have HR := Lib.hid hres
        have HI := Lib.hid hin
        clear hin hres
        go_wp2_with fail
        refine (Reduce_c _ _ _).mono ?_
        rintro e w1 ⟨rfl, hn⟩
        have hlk := (HS.out.ext hn).lookup (fred p x) (fred_bd _ _)
        have hdd : decide (fred p x ∈ L.reverse) = true := by rw [decide_eq_true_eq, List.mem_reverse]; exact HI.out
        rw [hdd] at hlk
        clear hdd
        go_wp2
        go_ret
        exact ⟨by rw [HR.out]; rfl, hext.box.trans hn⟩
      · have HI := Lib.hid hin
        clear hin
        go_wp2_with fail
        refine (Reduce_c _ _ _).mono ?_
        rintro e w1 ⟨rfl, hn⟩
        have hlk := (HS.out.ext hn).lookup (fred p x) (fred_bd _ _)
        have hdd : decide (fred p x ∈ L.reverse) = false := by rw [decide_eq_false_iff_not, List.mem_reverse]; exact HI.out
        rw [hdd] at hlk
        obtain ⟨w2, hup, hs3, hg3⟩ := (HS.out.ext hn).update (fred p x) (fred_bd _ _) (by simp; omega)
        have HS3 := Lib.hid hs3
        have HG3 := Lib.hid hg3
        clear hdd hs3 hg3
        go_wp2
        go_roundw
        case rel =>
          refine ⟨k + 1, by go_num, by omega, ?_, ?_, Below.grown (hext.trans hn) HG3.out (hext.trans hn).size (fun j hj => by injection hj with hj; subst hj; simp)⟩
          · rw [HS2.out, List.reverse_append]; exact HS3.out
          · rw [HS2.out, nodup_snoc]; exact ⟨HN.out, HI.out⟩
        case measure => simp [intOf]; omega
    · obtain rfl : k = l.length := by omega
      rw [List.take_length] at hnd
      have HN := Lib.hid hnd
      clear ha hseen hnd
      go_wp2
      go_ret
      exact ⟨by rw [decide_eq_true HN.out]; rfl, hext.box⟩
end Go.Proofs.Ytcnbinjoeilfgaa
