/- awake of layer 50. -/
import Derived.Test.YtndiaamoapidoaaCoB
namespace Go.Proofs.Ytndiaamoapidoaa
open Go.RowKit
def exV : List Nat := [5, 9, 3, 9]
theorem exV_dsc : dsc exV = [9, 9, 5, 3] := dsc_eq (by decide) (by decide)
theorem exV_few (t : Nat) : fewM exV t = fw [9, 9, 5, 3] t 0 0 := by unfold fewM; rw [exV_dsc]
theorem exV_ok : exE exV = 0 := by decide
theorem sel_ok {vs : List Nat} {t : Nat} {most : Int} {n : Nat} (h0 : exE vs = 0) (h1 : fewM vs t = n) (h2 : (n : Int) ≤ most) : selL vs t most = bl (fromM vs t n 0 0 [] none) ∧ selE vs t most = 0 := by
  constructor
  · unfold selL; rw [if_neg (by rw [h1]; rintro (h | h | h | h); exact h h0; omega; omega; omega), h1]; rfl
  · unfold selE; rw [if_neg (fun h => h h0), if_neg (by omega), if_neg (by rw [h1]; omega)]
theorem ex1 : selL exV 9 2 = [1] ∧ selE exV 9 2 = 0 := by
  have h := sel_ok (vs := exV) (t := 9) (most := 2) (n := 1) exV_ok (by rw [exV_few]; decide) (by decide)
  exact ⟨h.1.trans (by decide), h.2⟩
theorem ex2 : selL exV 12 2 = [1, 2] ∧ selE exV 12 2 = 0 := by
  have h := sel_ok (vs := exV) (t := 12) (most := 2) (n := 2) exV_ok (by rw [exV_few]; decide) (by decide)
  exact ⟨h.1.trans (by decide), h.2⟩
theorem ex3 : selL exV 13 2 = [0, 1] ∧ selE exV 13 2 = 0 := by
  have h := sel_ok (vs := exV) (t := 13) (most := 2) (n := 2) exV_ok (by rw [exV_few]; decide) (by decide)
  exact ⟨h.1.trans (by decide), h.2⟩
theorem ex4 : selL exV 19 2 = [] ∧ selE exV 19 2 = 15 := by
  have h1 : fewM exV 19 = 3 := by rw [exV_few]; decide
  constructor
  · unfold selL; rw [if_pos (by rw [h1]; exact .inr (.inr (.inr (by decide))))]
  · unfold selE; rw [if_neg (fun h => h exV_ok), if_neg (by decide), if_pos (by rw [h1]; exact .inr (by decide))]
theorem OwnI.formN {w : World} {base : Nat} {v : Value} {l : List Int} (h : OwnI w base v l) (n : Nat) (hn : l.length = n) : ∃ a c, v = .slice a n c ∧ n ≤ c ∧ RdI w a l := by
  subst hn
  obtain ⟨a, c, hv, hlc, _, hr⟩ := h.form
  exact ⟨a, c, hv, hlc, hr⟩
theorem RdI.one {w : World} {g : Nat} {x : Int} (h0 : w.cell? ⟨g, 0, none⟩ = some (.int .i64 x)) : RdI w (some ⟨g, 0, none⟩) [x] :=
  .inr ⟨g, 0, rfl, fun i hi => by
    have : i = 0 := by simpa using hi
    subst this; simpa using h0⟩
theorem RdI.two {w : World} {g : Nat} {x y : Int} (h0 : w.cell? ⟨g, 0, none⟩ = some (.int .i64 x)) (h1 : w.cell? ⟨g, 1, none⟩ = some (.int .i64 y)) : RdI w (some ⟨g, 0, none⟩) [x, y] :=
  .inr ⟨g, 0, rfl, fun i hi => by
    have h : i = 0 ∨ i = 1 := by simp at hi; omega
    rcases h with rfl | rfl
    · simpa using h0
    · simpa using h1⟩
theorem EqualN_c (l : List Int) (n : Nat) (hn : l.length = n) (a b : Option Addr) (c d : Nat) (w : World) (ha : RdI w a l) (hb : RdI w b l) (hl : n ≤ 1000) :
    Calls Try.prog 15 #[.slice a n c, .slice b n d] w fun e w' => e = .returned (.bool true) ∧ Ext w w' := by
  subst hn
  have := EqualI_c l l a b c d w ha hb hl hl
  rwa [decide_eq_true rfl] at this
theorem SelectN_c (t : Nat) (a : Option Addr) (c : Nat) (w : World) (ha : Rd w a exV) :
    Calls Try.prog 11 #[.slice a 4 c, .int .u64 (t : Int), .int .i64 2] w (SelPost w (selL exV t 2) (selE exV t 2)) := Select_c exV t 2 a c w ha (by decide)

set_option maxRecDepth 100000 in
set_option maxHeartbeats 4000000 in
theorem awake50_c (w : World) : Calls Try.prog 10 #[] w fun e w' => e = .returned (.bool true) ∧ Ext w w' := by
  have HR : Hid (Rd (w.alloc (.cells #[.int .u64 5, .int .u64 9, .int .u64 3, .int .u64 9] 23)) (some ⟨w.heap.size, 0, none⟩) exV) := Lib.hid (Rd.four (cnew _ _ _ _ _ rfl) (cnew _ _ _ _ _ rfl) (cnew _ _ _ _ _ rfl) (cnew _ _ _ _ _ rfl))
  have SC := Lib.hid (fun (t : Nat) (w' : World) (c : Nat) (h : Rd w' (some ⟨w.heap.size, 0, none⟩) exV) => SelectN_c t (some ⟨w.heap.size, 0, none⟩) c w' h)
  go_enter Try.func10, Try.ntmps10
  go_wp2_with fail
  refine (SC.out 9 _ _ HR.out).mono ?_
  rintro e w1 ⟨v1, rfl, o1, x1⟩
  rw [ex1.1] at o1
  rw [ex1.2]
  obtain ⟨a1, c1, rfl, _, r1⟩ := o1.formN 1 rfl
  have R1 := Lib.hid r1
  have X1 := Lib.hid x1
  clear o1 x1 r1
  go_wp2_with fail
  refine (SC.out 12 _ _ (HR.out.ext X1.out)).mono ?_
  rintro e w2 ⟨v2, rfl, o2, x2⟩
  rw [ex2.1] at o2
  rw [ex2.2]
  obtain ⟨a2, c2, rfl, _, r2⟩ := o2.formN 2 rfl
  have R2 := Lib.hid r2
  have X2 := Lib.hid x2
  clear o2 x2 r2
  go_wp2_with fail
  refine (SC.out 13 _ _ (HR.out.ext (X1.out.trans X2.out))).mono ?_
  rintro e w3 ⟨v3, rfl, o3, x3⟩
  rw [ex3.1] at o3
  rw [ex3.2]
  obtain ⟨a3, c3, rfl, _, r3⟩ := o3.formN 2 rfl
  have R3 := Lib.hid r3
  have X3 := Lib.hid x3
  clear o3 x3 r3
  go_wp2_with fail
  refine (SC.out 19 _ _ (HR.out.ext (X1.out.trans (X2.out.trans X3.out)))).mono ?_
  rintro e w4 ⟨v4, rfl, o4, x4⟩
  rw [ex4.1] at o4
  rw [ex4.2]
  obtain ⟨a4, c4, rfl, _, _⟩ := o4.formN 0 rfl
  have X4 := Lib.hid x4
  clear o4 x4
  go_wp2_with fail
  refine (EqualN_c [1] 1 rfl _ _ _ _ _ (R1.out.ext (X2.out.trans (X3.out.trans (X4.out.trans ((Ext.refl _).alloc _))))) (RdI.one (cnew _ _ _ _ _ rfl)) (by decide)).mono ?_
  rintro e w5 ⟨rfl, x5⟩
  have X5 := Lib.hid (Ext.box x5)
  clear x5
  go_wp2_with fail
  refine (EqualN_c [1, 2] 2 rfl _ _ _ _ _ (R2.out.ext (X3.out.trans (X4.out.trans (X5.out.trans ((Ext.refl _).alloc _))))) (RdI.two (cnew _ _ _ _ _ rfl) (cnew _ _ _ _ _ rfl)) (by decide)).mono ?_
  rintro e w6 ⟨rfl, x6⟩
  have X6 := Lib.hid (Ext.box x6)
  clear x6
  go_wp2_with fail
  refine (EqualN_c [0, 1] 2 rfl _ _ _ _ _ (R3.out.ext (X4.out.trans (X5.out.trans (X6.out.trans ((Ext.refl _).alloc _))))) (RdI.two (cnew _ _ _ _ _ rfl) (cnew _ _ _ _ _ rfl)) (by decide)).mono ?_
  rintro e w7 ⟨rfl, x7⟩
  have X7 := Lib.hid (Ext.box x7)
  clear x7
  go_wp2_with fail
  go_ret
  exact ⟨rfl, Ext.box (X1.out.trans (X2.out.trans (X3.out.trans (X4.out.trans (X5.out.trans (X6.out.trans X7.out))))))⟩
end Go.Proofs.Ytndiaamoapidoaa
