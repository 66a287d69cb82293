/- The fixed examples of the laws of layer 3. -/
import Derived.Test.YtbklflhikcfceaaPoly6
namespace Go.Proofs.Ytbklflhikcfceaa
open Go.RowKit

set_option maxHeartbeats 1000000 in
theorem same_c (l : List Nat) (n : Nat) (a b : Option Addr) (c d : Nat) (w : World) (hn : l.length = n) (ha : Rd w a l) (hb : Rd w b l) (hl : n ≤ 2000000000) :
    Calls Try.prog 18 #[.slice a n c, .slice b n d] w fun e w' => e = .returned (.bool true) ∧ Ext w w' := by
  subst hn
  have S := Lib.hid (Same_c l a b c d w ha hb hl)
  clear ha hb
  go_enter Try.func18, Try.ntmps18
  go_wp2_with (go_at_call 51; refine S.out.mono ?_; rintro e w1 ⟨rfl, h⟩)
  go_ret
  exact ⟨rfl, h⟩
set_option maxHeartbeats 1000000 in
theorem few_c (l : List Nat) (a : Option Addr) (c : Nat) (w : World) :
    Calls Try.prog 13 #[.slice a l.length c] w fun e w' => e = .returned (.bool (decide ((l.length : Int) ≤ 24))) ∧ w = w' := by
  go_enter Try.func13, Try.ntmps13
  go_wp2
  go_ret
  exact ⟨rfl, rfl⟩

theorem Own.formN {w : World} {base : Nat} {v : Value} {l : List Nat} (h : Own w base v l) (n : Nat) (hn : l.length = n) : ∃ a c, v = .slice a n c ∧ n ≤ c ∧ Rd w a l := by
  subst hn
  obtain ⟨a, c, hv, hlc, _, hr⟩ := h.form
  exact ⟨a, c, hv, hlc, hr⟩
theorem Rd.one {w : World} {g x : Nat} (h0 : w.cell? ⟨g, 0, none⟩ = some (.int .u64 (x : Int))) : Rd w (some ⟨g, 0, none⟩) [x] :=
  .inr ⟨g, 0, rfl, fun i hi => by
    have : i = 0 := by simpa using hi
    subst this; simpa using h0⟩
theorem Rd.two {w : World} {g x y : Nat} (h0 : w.cell? ⟨g, 0, none⟩ = some (.int .u64 (x : Int))) (h1 : w.cell? ⟨g, 1, none⟩ = some (.int .u64 (y : Int))) : Rd w (some ⟨g, 0, none⟩) [x, y] :=
  .inr ⟨g, 0, rfl, fun i hi => by
    have h : i = 0 ∨ i = 1 := by simp at hi; omega
    rcases h with rfl | rfl
    · simpa using h0
    · simpa using h1⟩
theorem Rd.three {w : World} {g x y z : Nat} (h0 : w.cell? ⟨g, 0, none⟩ = some (.int .u64 (x : Int))) (h1 : w.cell? ⟨g, 1, none⟩ = some (.int .u64 (y : Int))) (h2 : w.cell? ⟨g, 2, none⟩ = some (.int .u64 (z : Int))) : Rd w (some ⟨g, 0, none⟩) [x, y, z] :=
  .inr ⟨g, 0, rfl, fun i hi => by
    have h : i = 0 ∨ i = 1 ∨ i = 2 := by simp at hi; omega
    rcases h with rfl | rfl | rfl
    · simpa using h0
    · simpa using h1
    · simpa using h2⟩

theorem cnew (w : World) (cs : Array Value) (t : TypeId) (g i : Nat) (h : g = w.heap.size) : (w.alloc (.cells cs t)).cell? ⟨g, i, none⟩ = cs[i]? := by
  subst h; simp [World.cell?_alloc_new]
theorem aw_mul : pmul 17 [3, 1] [14, 1] = [8, 0, 1] := by decide +kernel
theorem aw_quo : pquo 17 [8, 0, 1] [1, 1] = [16, 1] := by decide +kernel
theorem aw_rem : prem 17 [8, 0, 1] [1, 1] = [9] := by decide +kernel
theorem aw_int : pinter 17 [0, 1, 2] [1, 2, 5] = [1, 0, 1] := by decide +kernel

theorem awMul (W : World) (a b : Option Addr) (h1 : Rd W a [3, 1]) (h2 : Rd W b [14, 1]) : Calls Try.prog 33 #[.agg #[.int .u64 17], .slice a 2 2, .slice b 2 2] W (SlPost W [8, 0, 1]) := by
  have := MulP_c 17 [3, 1] [14, 1] a b 2 2 W h1 h2 (by decide) (by decide)
  rw [aw_mul] at this; exact this
theorem awDiv (W : World) (a b : Option Addr) (c : Nat) (h1 : Rd W a [8, 0, 1]) (h2 : Rd W b [1, 1]) : Calls Try.prog 14 #[.agg #[.int .u64 17], .slice a 3 c, .slice b 2 2] W (DMPost W [16, 1] [9] 0) := by
  have := DivMod_long 17 [8, 0, 1] [1, 1] a b c 2 W (by decide) h1 h2 (by decide) (by decide) (by decide +kernel) (by decide +kernel)
  rw [aw_quo, aw_rem] at this; exact this
theorem awInt (W : World) (a b : Option Addr) (h1 : Rd W a [0, 1, 2]) (h2 : Rd W b [1, 2, 5]) : Calls Try.prog 22 #[.agg #[.int .u64 17], .slice a 3 3, .slice b 3 3] W (IPost W [1, 0, 1] 0) := by
  have := Interp_ok 17 [0, 1, 2] [1, 2, 5] a b 3 3 W (by decide) h1 h2 rfl (by decide) (by decide +kernel)
  rw [aw_int] at this; exact this

set_option maxRecDepth 100000 in
set_option maxHeartbeats 2000000 in
theorem awake_c (w : World) : Calls Try.prog 12 #[] w fun e w' => e = .returned (.bool true) ∧ Ext w w' := by
  go_enter Try.func12, Try.ntmps12
  go_wp2_with fail
  refine (awMul _ _ _ ?_ ?_).mono ?_
  · exact Rd.two (by simp [World.cell?_alloc_past, cnew]) (by simp [World.cell?_alloc_past, cnew])
  · exact Rd.two (by simp [cnew]) (by simp [cnew])
  rintro e w1 ⟨v, rfl, o1, x1⟩
  obtain ⟨a1, c1, rfl, k1, r1⟩ := o1.formN 3 rfl
  have hc : w1.cell? ⟨w.heap.size, 0, none⟩ = some (.int .u64 17) := x1.box.box.boxCell
  have X : Ext w w1 := x1.box.box.box
  clear o1 x1
  go_wp2_with fail
  refine (awDiv _ _ _ _ ?_ ?_).mono ?_
  · exact r1.ext ((Ext.refl _).alloc _)
  · exact Rd.two (by simp [cnew]) (by simp [cnew])
  rintro e w2 ⟨v, u, rfl, o2, o3, x2⟩
  obtain ⟨a2, c2, rfl, k2, r2⟩ := o2.formN 2 rfl
  obtain ⟨a3, c3, rfl, k3, r3⟩ := o3.formN 1 rfl
  have hc2 := x2.cell (((Ext.refl w1).alloc _).cell hc)
  replace r1 := r1.ext x2.box
  replace X := X.trans x2.box
  clear o2 o3 x2 hc
  go_wp2_with fail
  refine (awInt _ _ _ ?_ ?_).mono ?_
  · exact Rd.three (by simp [World.cell?_alloc_past, cnew]) (by simp [World.cell?_alloc_past, cnew]) (by simp [World.cell?_alloc_past, cnew])
  · exact Rd.three (by simp [cnew]) (by simp [cnew]) (by simp [cnew])
  rintro e w3 ⟨v, rfl, o4, x3⟩
  obtain ⟨a4, c4, rfl, k4, r4⟩ := o4.formN 3 rfl
  replace r1 := r1.ext x3.box.box
  replace r2 := r2.ext x3.box.box
  replace r3 := r3.ext x3.box.box
  replace X := X.trans x3.box.box
  clear o4 x3 hc2
  go_wp2_with fail
  refine (same_c [8, 0, 1] 3 _ _ _ _ _ rfl (r1.ext ((Ext.refl _).alloc _)) ?_ (by decide)).mono ?_
  · exact Rd.three (by simp [cnew]) (by simp [cnew]) (by simp [cnew])
  rintro e w4 ⟨rfl, x4⟩
  replace r2 := r2.ext x4.box
  replace r3 := r3.ext x4.box
  replace r4 := r4.ext x4.box
  replace X := X.trans x4.box
  clear x4 r1
  go_wp2_with fail
  refine (same_c [16, 1] 2 _ _ _ _ _ rfl (r2.ext ((Ext.refl _).alloc _)) ?_ (by decide)).mono ?_
  · exact Rd.two (by simp [cnew]) (by simp [cnew])
  rintro e w5 ⟨rfl, x5⟩
  replace r3 := r3.ext x5.box
  replace r4 := r4.ext x5.box
  replace X := X.trans x5.box
  clear x5 r2
  go_wp2_with fail
  refine (same_c [9] 1 _ _ _ _ _ rfl (r3.ext ((Ext.refl _).alloc _)) ?_ (by decide)).mono ?_
  · exact Rd.one (by simp [cnew])
  rintro e w6 ⟨rfl, x6⟩
  replace r4 := r4.ext x6.box
  replace X := X.trans x6.box
  clear x6 r3
  go_wp2_with fail
  refine (same_c [1, 0, 1] 3 _ _ _ _ _ rfl (r4.ext ((Ext.refl _).alloc _)) ?_ (by decide)).mono ?_
  · exact Rd.three (by simp [cnew]) (by simp [cnew]) (by simp [cnew])
  rintro e w7 ⟨rfl, x7⟩
  replace X := X.trans x7.box
  clear x7 r4
  go_wp2_with fail
  go_ret
  exact ⟨rfl, X⟩
end Go.Proofs.Ytbklflhikcfceaa
