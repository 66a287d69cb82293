/- The fixed examples of the laws of layer 4. -/
import Derived.Test.YtcnbinjoeilfgaaTr8
import Derived.Test.YtcnbinjoeilfgaaGS
namespace Go.Proofs.Ytcnbinjoeilfgaa
open Go.RowKit
theorem aw4F : tF 17 [1, 2, 0, 0] = ([3, 10, 16, 9], 0) := by decide +kernel
theorem aw4I : tI 17 [3, 10, 16, 9] = ([1, 2, 0, 0], 0) := by decide +kernel
theorem aw4D : tD 17 3 2 = ([3, 14], 0) := by decide +kernel
theorem aw4M : tM 17 [1, 2] [3, 1] = ([3, 7, 2], 0) := by decide +kernel
theorem aw4Fc (W : World) (a : Option Addr) (h : Rd W a [1, 2, 0, 0]) : Calls Try.prog 13 #[.agg #[.int .u64 17], .slice a 4 4] W (IPost W [3, 10, 16, 9] 0) := by
  have := Forward_c 17 [1, 2, 0, 0] a 4 W h (by decide)
  rw [aw4F] at this; exact this
theorem aw4Ic (W : World) (a : Option Addr) (h : Rd W a [3, 10, 16, 9]) : Calls Try.prog 15 #[.agg #[.int .u64 17], .slice a 4 4] W (IPost W [1, 2, 0, 0] 0) := by
  have := Inverse_c 17 [3, 10, 16, 9] a 4 W h (by decide)
  rw [aw4I] at this; exact this
theorem aw4Dc (W : World) : Calls Try.prog 18 #[.agg #[.int .u64 17], .int .u64 3, .int .i64 2] W (IPost W [3, 14] 0) := by
  have := Domain_c 17 3 2 W (by decide) (by decide)
  rw [aw4D] at this; exact this
theorem aw4Mc (W : World) (a b : Option Addr) (h : Rd W a [1, 2]) (h2 : Rd W b [3, 1]) : Calls Try.prog 24 #[.agg #[.int .u64 17], .slice a 2 2, .slice b 2 2] W (IPost W [3, 7, 2] 0) := by
  have := Multiply_c 17 [1, 2] [3, 1] a b 2 2 W h h2 (by decide)
  rw [aw4M] at this; exact this
theorem same4n (l : List Nat) (n : Nat) (a b : Option Addr) (c d : Nat) (w : World) (hn : l.length = n) (ha : Rd w a l) (hb : Rd w b l) (hl : n ≤ 2000000000) :
    Calls Try.prog 17 #[.slice a n c, .slice b n d] w fun e w' => e = .returned (.bool true) ∧ Ext w w' := by
  subst hn; exact Same4_c l a b c d w ha hb hl

set_option maxRecDepth 100000 in
set_option maxHeartbeats 2000000 in
theorem awake4_c (w : World) : Calls Try.prog 12 #[] w fun e w' => e = .returned (.bool true) ∧ Ext w w' := by
  go_enter Try.func12, Try.ntmps12
  go_wp2_with fail
  refine (aw4Fc _ _ ?_).mono ?_
  · exact Rd.four (by simp [cnew]) (by simp [cnew]) (by simp [cnew]) (by simp [cnew])
  rintro e w1 ⟨v, rfl, o1, x1⟩
  obtain ⟨a1, c1, rfl, k1, r1⟩ := o1.formN 4 rfl
  have hc : w1.cell? ⟨w.heap.size, 0, none⟩ = some (.int .u64 17) := x1.box.boxCell
  have X : Ext w w1 := x1.box.box
  clear o1 x1
  go_wp2_with fail
  refine (aw4Ic _ _ ?_).mono ?_
  · exact Rd.four (by simp [cnew]) (by simp [cnew]) (by simp [cnew]) (by simp [cnew])
  rintro e w2 ⟨v, rfl, o2, x2⟩
  obtain ⟨a2, c2, rfl, k2, r2⟩ := o2.formN 4 rfl
  replace hc := x2.box.cell hc
  replace r1 := r1.ext x2.box
  replace X := X.trans x2.box
  clear o2 x2
  go_wp2_with fail
  refine (aw4Dc _).mono ?_
  rintro e w3 ⟨v, rfl, o3, x3⟩
  obtain ⟨a3, c3, rfl, k3, r3⟩ := o3.formN 2 rfl
  replace hc := x3.cell hc
  replace r1 := r1.ext x3
  replace r2 := r2.ext x3
  replace X := X.trans x3
  clear o3 x3
  go_wp2_with fail
  refine (aw4Mc _ _ _ ?_ ?_).mono ?_
  · exact Rd.two (by simp [World.cell?_alloc_past, cnew]) (by simp [World.cell?_alloc_past, cnew])
  · exact Rd.two (by simp [cnew]) (by simp [cnew])
  rintro e w4 ⟨v, rfl, o4, x4⟩
  obtain ⟨a4, c4, rfl, k4, r4⟩ := o4.formN 3 rfl
  replace r1 := r1.ext x4.box.box
  replace r2 := r2.ext x4.box.box
  replace r3 := r3.ext x4.box.box
  replace X := X.trans x4.box.box
  clear o4 x4 hc
  go_wp2_with fail
  refine (same4n [3, 10, 16, 9] 4 _ _ _ _ _ rfl (r1.ext ((Ext.refl _).alloc _)) ?_ (by decide)).mono ?_
  · exact Rd.four (by simp [cnew]) (by simp [cnew]) (by simp [cnew]) (by simp [cnew])
  rintro e w5 ⟨rfl, x5⟩
  replace r2 := r2.ext x5.box
  replace r3 := r3.ext x5.box
  replace r4 := r4.ext x5.box
  replace X := X.trans x5.box
  clear x5 r1
  go_wp2_with fail
  refine (same4n [1, 2, 0, 0] 4 _ _ _ _ _ rfl (r2.ext ((Ext.refl _).alloc _)) ?_ (by decide)).mono ?_
  · exact Rd.four (by simp [cnew]) (by simp [cnew]) (by simp [cnew]) (by simp [cnew])
  rintro e w6 ⟨rfl, x6⟩
  replace r3 := r3.ext x6.box
  replace r4 := r4.ext x6.box
  replace X := X.trans x6.box
  clear x6 r2
  go_wp2_with fail
  refine (same4n [3, 14] 2 _ _ _ _ _ rfl (r3.ext ((Ext.refl _).alloc _)) ?_ (by decide)).mono ?_
  · exact Rd.two (by simp [cnew]) (by simp [cnew])
  rintro e w7 ⟨rfl, x7⟩
  replace r4 := r4.ext x7.box
  replace X := X.trans x7.box
  clear x7 r3
  go_wp2_with fail
  refine (same4n [3, 7, 2] 3 _ _ _ _ _ rfl (r4.ext ((Ext.refl _).alloc _)) ?_ (by decide)).mono ?_
  · exact Rd.three (by simp [cnew]) (by simp [cnew]) (by simp [cnew])
  rintro e w8 ⟨rfl, x8⟩
  replace X := X.trans x8.box
  clear x8 r4
  go_wp2_with fail
  go_ret
  exact ⟨rfl, X⟩
end Go.Proofs.Ytcnbinjoeilfgaa
