/- Contracts of moidoreref03, second part. -/
import Derived.Test.YtbklflhikcfceaaAwake
import Derived.Test.YtbklflhikcfceaaMath4
namespace Go.Proofs.Ytbklflhikcfceaa
open Go.RowKit

def DfPost (p : Nat) (l : List Nat) (w : World) (e : Ending) (w' : World) : Prop := ∃ b, e = .returned (.bool b) ∧ (b = true ↔ Q.Diff p l) ∧ Ext w w'
def DfOut (p : Nat) (l : List Nat) (w : World) (s : Value) (wr : World) : Prop :=
  ∃ k : Nat, s = .int .i64 k ∧ k ≤ l.length ∧ (∀ i j, j < i → i < k → fsub p (l.getD i 0) (l.getD j 0) ≠ 0) ∧ Ext w wr
def DfIn (p : Nat) (l : List Nat) (k : Nat) (w : World) (s : Value) (wr : World) : Prop :=
  ∃ j : Nat, s = .int .i64 j ∧ j ≤ k ∧ (∀ t, t < j → fsub p (l.getD k 0) (l.getD t 0) ≠ 0) ∧ Ext w wr

set_option maxRecDepth 100000 in
set_option maxHeartbeats 2000000 in
theorem RDiff_c (p : Nat) (l : List Nat) (a : Option Addr) (c : Nat) (w : World) (ha : Rd w a l) (hl : l.length ≤ 1000000) :
    Calls Try.prog 23 #[.int .u64 p, .slice a l.length c] w (DfPost p l w) := by
  have HA := Lib.hid ha
  clear ha
  go_enter Try.func23, Try.ntmps23
  go_wp2
  go_loopw [5] (DfOut p l w) (fun i _ => l.length - (intOf i).toNat)
  case atStart => exact ⟨0, rfl, Nat.zero_le _, fun _ _ _ h => absurd h (Nat.not_lt_zero _), Ext.refl _⟩
  case round =>
    obtain ⟨k, rfl, hk, hd, hext⟩ := hrel
    have HD := Lib.hid hd
    clear hd
    by_cases hlt : k < l.length
    · go_wp2
      go_loopw [6] (DfIn p l k w) (fun i _ => k - (intOf i).toNat)
      case atStart => exact ⟨0, rfl, Nat.zero_le _, fun _ h => absurd h (Nat.not_lt_zero _), hext⟩
      case round =>
        obtain ⟨j, rfl, hj, hd2, hext2⟩ := hrel
        have HD2 := Lib.hid hd2
        clear hd2
        by_cases hjk : j < k
        · obtain ⟨b, off, rfl, hcell⟩ := HA.out.at (by omega)
          have c1 := hext2.cell (hcell k hlt)
          have c2 := hext2.cell (hcell j (by omega))
          obtain ⟨x, hx0⟩ : ∃ x, x = l.getD k 0 := ⟨_, rfl⟩
          obtain ⟨y, hy0⟩ : ∃ y, y = l.getD j 0 := ⟨_, rfl⟩
          rw [← hx0] at c1
          rw [← hy0] at c2
          have HXY := Lib.hid (And.intro hx0 hy0)
          clear hcell hx0 hy0
          by_cases hz : fsub p x y = 0
          · have t1 : ((fsub p x y : Int) == 0) = true := beq_iff_eq.2 (by omega)
            have HZ := Lib.hid hz
            clear hz
            go_wp2
            refine region_facts [[], [], [], [(1, 19), (2, 20)], [(3, 21)], [], [], [(5, 23), (6, 24)], [(7, 25)], [(0, 18), (4, 22), (8, 26)], [(9, 27)]] [some 18, some 19, some 20, some 21, some 22, some 23, some 24, some 25, some 26, some 27, some 28] (by kernel_rfl) (by kernel_rfl) ?_
            with_reducible apply From.eq
            · intro w' hx; have c1x := hx.cell c1; have c2x := hx.cell c2; (try dsimp only [List.nil_append, List.cons_append]); dsimp only [DepsV, fat, eqF]; go_wp2; exact OpPost.some _ rfl rfl (Ext.refl _) rfl
            with_reducible apply From.eq
            · intro w' hx; have c1x := hx.cell c1; have c2x := hx.cell c2; (try dsimp only [List.nil_append, List.cons_append]); dsimp only [DepsV, fat, eqF]; go_wp2; exact OpPost.some _ rfl rfl (Ext.refl _) rfl
            with_reducible apply From.eq
            · intro w' hx; have c1x := hx.cell c1; have c2x := hx.cell c2; (try dsimp only [List.nil_append, List.cons_append]); dsimp only [DepsV, fat, eqF]; go_wp2; exact OpPost.some _ rfl rfl (Ext.refl _) rfl
            with_reducible apply From.eq
            · intro w' hx; have c1x := hx.cell c1; have c2x := hx.cell c2; (try dsimp only [List.nil_append, List.cons_append]); dsimp only [DepsV, fat, eqF]; rintro _ rfl _ rfl; go_wp2; exact OpPost.some _ rfl rfl (Ext.refl _) rfl
            with_reducible apply From.eq
            · intro w' hx; have c1x := hx.cell c1; have c2x := hx.cell c2; (try dsimp only [List.nil_append, List.cons_append]); dsimp only [DepsV, fat, eqF]; rintro _ rfl; go_wp2; exact OpPost.some _ rfl rfl (Ext.refl _) rfl
            with_reducible apply From.eq
            · intro w' hx; have c1x := hx.cell c1; have c2x := hx.cell c2; (try dsimp only [List.nil_append, List.cons_append]); dsimp only [DepsV, fat, eqF]; go_wp2; exact OpPost.some _ rfl rfl (Ext.refl _) rfl
            with_reducible apply From.eq
            · intro w' hx; have c1x := hx.cell c1; have c2x := hx.cell c2; (try dsimp only [List.nil_append, List.cons_append]); dsimp only [DepsV, fat, eqF]; go_wp2; exact OpPost.some _ rfl rfl (Ext.refl _) rfl
            with_reducible apply From.eq
            · intro w' hx; have c1x := hx.cell c1; have c2x := hx.cell c2; (try dsimp only [List.nil_append, List.cons_append]); dsimp only [DepsV, fat, eqF]; rintro _ rfl _ rfl; go_wp2; exact OpPost.some _ rfl rfl (Ext.refl _) rfl
            with_reducible apply From.eq
            · intro w' hx; have c1x := hx.cell c1; have c2x := hx.cell c2; (try dsimp only [List.nil_append, List.cons_append]); dsimp only [DepsV, fat, eqF]; rintro _ rfl; go_wp2; exact OpPost.some _ rfl rfl (Ext.refl _) rfl
            with_reducible apply From.eq
            · intro w' hx; have c1x := hx.cell c1; have c2x := hx.cell c2; (try dsimp only [List.nil_append, List.cons_append]); dsimp only [DepsV, fat, eqF]; rintro _ rfl _ rfl _ rfl; go_wp2_with (go_at_call 29; refine (RSub_c _ _ _ _).mono ?_; rintro e w2 ⟨rfl, hb2⟩); exact OpPost.some _ rfl rfl hb2 rfl
            with_reducible apply From.eq
            · intro w' hx; have c1x := hx.cell c1; have c2x := hx.cell c2; (try dsimp only [List.nil_append, List.cons_append]); dsimp only [DepsV, fat, eqF]; rintro _ rfl; go_wp2; exact OpPost.some _ rfl rfl (Ext.refl _) rfl
            with_reducible refine From.fin ?_
            intro w' hx
            (try dsimp only [List.nil_append, List.cons_append]); dsimp only [EndV, eqF]; rintro _ rfl _ rfl _ rfl _ rfl _ rfl _ rfl _ rfl _ rfl _ rfl _ rfl _ rfl; simp only [Act.put, List.setIfInBounds_toArray, List.set_cons_zero, List.set_cons_succ]
            go_wp2
            go_ret
            refine ⟨false, rfl, ⟨fun h => by simp at h, fun h => ?_⟩, hext2.trans hx⟩
            exact absurd (by rw [← HXY.out.1, ← HXY.out.2]; exact HZ.out) (h k j hjk hlt)
          · have t1 : ((fsub p x y : Int) == 0) = false := beq_eq_false_iff_ne.2 (by omega)
            have HZ := Lib.hid hz
            clear hz
            go_wp2
            refine region_facts [[], [], [], [(1, 19), (2, 20)], [(3, 21)], [], [], [(5, 23), (6, 24)], [(7, 25)], [(0, 18), (4, 22), (8, 26)], [(9, 27)]] [some 18, some 19, some 20, some 21, some 22, some 23, some 24, some 25, some 26, some 27, some 28] (by kernel_rfl) (by kernel_rfl) ?_
            with_reducible apply From.eq
            · intro w' hx; have c1x := hx.cell c1; have c2x := hx.cell c2; (try dsimp only [List.nil_append, List.cons_append]); dsimp only [DepsV, fat, eqF]; go_wp2; exact OpPost.some _ rfl rfl (Ext.refl _) rfl
            with_reducible apply From.eq
            · intro w' hx; have c1x := hx.cell c1; have c2x := hx.cell c2; (try dsimp only [List.nil_append, List.cons_append]); dsimp only [DepsV, fat, eqF]; go_wp2; exact OpPost.some _ rfl rfl (Ext.refl _) rfl
            with_reducible apply From.eq
            · intro w' hx; have c1x := hx.cell c1; have c2x := hx.cell c2; (try dsimp only [List.nil_append, List.cons_append]); dsimp only [DepsV, fat, eqF]; go_wp2; exact OpPost.some _ rfl rfl (Ext.refl _) rfl
            with_reducible apply From.eq
            · intro w' hx; have c1x := hx.cell c1; have c2x := hx.cell c2; (try dsimp only [List.nil_append, List.cons_append]); dsimp only [DepsV, fat, eqF]; rintro _ rfl _ rfl; go_wp2; exact OpPost.some _ rfl rfl (Ext.refl _) rfl
            with_reducible apply From.eq
            · intro w' hx; have c1x := hx.cell c1; have c2x := hx.cell c2; (try dsimp only [List.nil_append, List.cons_append]); dsimp only [DepsV, fat, eqF]; rintro _ rfl; go_wp2; exact OpPost.some _ rfl rfl (Ext.refl _) rfl
            with_reducible apply From.eq
            · intro w' hx; have c1x := hx.cell c1; have c2x := hx.cell c2; (try dsimp only [List.nil_append, List.cons_append]); dsimp only [DepsV, fat, eqF]; go_wp2; exact OpPost.some _ rfl rfl (Ext.refl _) rfl
            with_reducible apply From.eq
            · intro w' hx; have c1x := hx.cell c1; have c2x := hx.cell c2; (try dsimp only [List.nil_append, List.cons_append]); dsimp only [DepsV, fat, eqF]; go_wp2; exact OpPost.some _ rfl rfl (Ext.refl _) rfl
            with_reducible apply From.eq
            · intro w' hx; have c1x := hx.cell c1; have c2x := hx.cell c2; (try dsimp only [List.nil_append, List.cons_append]); dsimp only [DepsV, fat, eqF]; rintro _ rfl _ rfl; go_wp2; exact OpPost.some _ rfl rfl (Ext.refl _) rfl
            with_reducible apply From.eq
            · intro w' hx; have c1x := hx.cell c1; have c2x := hx.cell c2; (try dsimp only [List.nil_append, List.cons_append]); dsimp only [DepsV, fat, eqF]; rintro _ rfl; go_wp2; exact OpPost.some _ rfl rfl (Ext.refl _) rfl
            with_reducible apply From.eq
            · intro w' hx; have c1x := hx.cell c1; have c2x := hx.cell c2; (try dsimp only [List.nil_append, List.cons_append]); dsimp only [DepsV, fat, eqF]; rintro _ rfl _ rfl _ rfl; go_wp2_with (go_at_call 29; refine (RSub_c _ _ _ _).mono ?_; rintro e w2 ⟨rfl, hb2⟩); exact OpPost.some _ rfl rfl hb2 rfl
            with_reducible apply From.eq
            · intro w' hx; have c1x := hx.cell c1; have c2x := hx.cell c2; (try dsimp only [List.nil_append, List.cons_append]); dsimp only [DepsV, fat, eqF]; rintro _ rfl; go_wp2; exact OpPost.some _ rfl rfl (Ext.refl _) rfl
            with_reducible refine From.fin ?_
            intro w' hx
            (try dsimp only [List.nil_append, List.cons_append]); dsimp only [EndV, eqF]; rintro _ rfl _ rfl _ rfl _ rfl _ rfl _ rfl _ rfl _ rfl _ rfl _ rfl _ rfl; simp only [Act.put, List.setIfInBounds_toArray, List.set_cons_zero, List.set_cons_succ]
            go_wp2
            go_roundw
            case rel =>
              refine ⟨j + 1, by go_num, by omega, fun t ht => ?_, hext2.trans hx⟩
              rcases Nat.lt_or_ge t j with h | h
              · exact HD2.out t h
              · obtain rfl : t = j := by omega
                rw [← HXY.out.1, ← HXY.out.2]; exact HZ.out
            case measure => simp [intOf]; omega
        · obtain rfl : j = k := by omega
          go_wp2
          go_roundw
          case rel =>
            refine ⟨j + 1, by go_num, by omega, fun i t ht hi => ?_, hext2⟩
            rcases Nat.lt_or_ge i j with h | h
            · exact HD.out i t ht h
            · obtain rfl : i = j := by omega
              exact HD2.out t ht
          case measure => simp [intOf]; omega
    · obtain rfl : k = l.length := by omega
      go_wp2
      go_ret
      exact ⟨true, rfl, ⟨fun _ => HD.out, fun _ => rfl⟩, hext⟩

def RVRel (p : Nat) (xs : List Nat) (w : World) (v s : Value) (wr : World) : Prop :=
  ∃ k : Nat, s = .int .i64 k ∧ k ≤ xs.length ∧ Own wr w.heap.size v (Q.rvanK p xs k) ∧ Ext w wr

set_option maxRecDepth 100000 in
set_option maxHeartbeats 2000000 in
theorem RVan_c (p : Nat) (l : List Nat) (a : Option Addr) (c : Nat) (w : World) (ha : Rd w a l) (hl : l.length ≤ 10000) :
    Calls Try.prog 28 #[.int .u64 p, .slice a l.length c] w (SlPost w (Q.rvan p l)) := by
  have HA := Lib.hid ha
  have T1 : Hid (∀ W a', Rd W a' [1] → Calls Try.prog 21 #[.int .u64 p, .slice a' 1 1] W (SlPost W (trimP p [1]))) := Lib.hid fun W a' h => RTrim_c p [1] a' 1 W h (by decide)
  have R1 : Hid (∀ W, Calls Try.prog 25 #[.int .u64 p, .int .u64 1] W fun e w' => e = .returned (.int .u64 (fred p 1)) ∧ Ext W w') := Lib.hid fun W => RReduce_c p 1 W
  clear ha
  go_enter Try.func28, Try.ntmps28
  go_wp2_with fail
  refine (T1.out _ _ ?_).mono ?_
  · exact Rd.one (by simp [cnew])
  rintro e w1 ⟨v, rfl, o1, x1⟩
  have HO := Lib.hid o1
  clear o1
  go_wp2_with fail
  go_loopw [5, 6] (RVRel p l w) (fun _ i _ => l.length - (intOf i).toNat)
  case atStart => exact ⟨0, rfl, Nat.zero_le _, HO.out.base (by simp), x1.box⟩
  case round =>
    clear HO
    obtain ⟨k, rfl, hk, hown, hext⟩ := hrel
    by_cases hlt : k < l.length
    · obtain ⟨b, off, rfl, hcell⟩ := HA.out.at (by omega)
      have c1 := hext.cell (hcell k hlt)
      have hle := Q.rvanK_le p l k
      have E : Hid (Q.rvanK p l (k + 1) = rmul p [fneg p (l.getD k 0), fred p 1] (Q.rvanK p l k)) := Lib.hid rfl
      obtain ⟨x, hx0⟩ : ∃ x, x = l.getD k 0 := ⟨_, rfl⟩
      obtain ⟨V, hV0⟩ : ∃ V, V = Q.rvanK p l k := ⟨_, rfl⟩
      rw [← hx0] at c1 E
      rw [← hV0] at hown hle E
      obtain ⟨aV, cV, rfl, _, _, hrV⟩ := hown.form
      have HRV := Lib.hid hrV
      have M1 : Hid (∀ W a' z, Rd W a' [z, fred p 1] → Rd W aV V → Calls Try.prog 20 #[.int .u64 p, .slice a' 2 2, .slice aV V.length cV] W (SlPost W (rmul p [z, fred p 1] V))) := Lib.hid fun W a' z h h2 => RMulP_c p [z, fred p 1] V a' aV 2 cV W h h2 (by show 2 ≤ 100000; omega) (by omega)
      clear hcell hx0 hV0 hown hrV
      go_wp2_with fail
      refine (RNeg_c _ _ _).mono ?_; rintro e w2 ⟨rfl, x2⟩
      go_wp2_with fail
      refine (R1.out _).mono ?_; rintro e w3 ⟨rfl, x3⟩
      go_wp2_with fail
      refine (M1.out _ _ (fneg p x) ?_ (HRV.out.ext ((x2.trans x3).trans ((Ext.refl _).alloc _)))).mono ?_
      · exact Rd.two (by simp [cnew]) (by simp [cnew])
      rintro e w4 ⟨v, rfl, o4, x4⟩
      go_wp2_with fail
      go_roundw
      case rel =>
        have hx := (hext.trans x2).trans x3
        refine ⟨k + 1, by go_num, by omega, ?_, hx.trans x4.box⟩
        rw [E.out]; exact o4.base (Nat.le_trans hx.size (by simp))
      case measure => simp [intOf]; omega
    · obtain rfl : k = l.length := by omega
      have HO := Lib.hid hown
      clear hown
      go_wp2
      go_ret
      exact ⟨_, rfl, HO.out, hext⟩
end Go.Proofs.Ytbklflhikcfceaa
