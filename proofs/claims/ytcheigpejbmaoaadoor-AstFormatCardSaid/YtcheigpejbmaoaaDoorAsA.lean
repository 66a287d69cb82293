/- FormatExpr, and the fixed examples of layer 15. -/
import Derived.Test.YtcheigpejbmaoaaDoorAs9
namespace Go.Proofs.YtcheigpejbmaoaaDoor
open Go.RowKit
theorem limited_ok (s : ByteArray) (h : s.size ≤ 16384) (w : World) : Calls Tryd.prog 50 #[.string s] w fun r w' => r = .returned (.tuple #[.string s, .int .i64 0]) ∧ w = w' := by
  have t : decide ((16384 : Int) < (s.size : Int)) = false := decide_eq_false (by omega)
  go_enter Tryd.func50, Tryd.ntmps50
  go_wp2
  go_returns
  exact ⟨rfl, rfl⟩
theorem limited_no (s : ByteArray) (h : 16384 < s.size) (w : World) : Calls Tryd.prog 50 #[.string s] w fun r w' => r = .returned (.tuple #[.string ⟨#[]⟩, .int .i64 3]) ∧ w = w' := by
  have t : decide ((16384 : Int) < (s.size : Int)) = true := decide_eq_true (by omega)
  go_enter Tryd.func50, Tryd.ntmps50
  go_wp2
  go_returns
  exact ⟨rfl, rfl⟩
theorem isShallow_c (e : E) (w : World) (h : E.sz e ≤ 1000000000) (he : InE w e) : Calls Tryd.prog 56 #[e.v] w fun r w' => r = .returned (.bool (decide (depE e ≤ 40))) ∧ Ext w w' := by
  have DC := Lib.hid (fun w' (hx : Ext w w') => Depth_c e w' h (he.to hx))
  unfold E.v at DC ⊢
  obtain ⟨d, hd⟩ : ∃ q, q = depE e := ⟨_, rfl⟩
  rw [← hd] at DC ⊢
  have hc : (decide (d ≤ 40)) = decide ((d : Int) ≤ 40) := by
    by_cases q : d ≤ 40
    · rw [decide_eq_true q, decide_eq_true (by omega)]
    · rw [decide_eq_false q, decide_eq_false (by omega)]
  have HC := Lib.hid hc
  clear he h hd hc
  go_enter Tryd.func56, Tryd.ntmps56
  go_wp2_with fail
  refine (DC.out _ ((Ext.refl _).alloc _)).mono ?_; rintro e1 w1 ⟨rfl, x1⟩
  go_wp2_with fail
  go_ret
  refine ⟨?_, x1.box⟩
  rw [HC.out]
  first
    | rfl
    | (show Ending.returned (.bool _) = _; congr 2; rw [decide_eq_decide]; omega)
set_option maxRecDepth 100000 in
set_option maxHeartbeats 2000000 in
theorem FormatExpr_ok (e : E) (w : World) (he : InE w e) (ht : Tab w) (hok : okE e = true) (hsz : E.sz e ≤ 1000000000) (hd : depE e ≤ 40) (hl : (txB e).length ≤ 16384) :
    Calls Tryd.prog 19 #[e.v] w fun r w' => r = .returned (.tuple #[.string ⟨(txB e).toArray⟩, .int .i64 0]) ∧ Ext w w' := by
  have IC := Lib.hid (fun w' (hx : Ext w w') => by have q := isExpr_c e w' (he.to hx); rw [hok] at q; exact q)
  have SC := Lib.hid (fun w' (hx : Ext w w') => by have q := isShallow_c e w' hsz (he.to hx); rw [decide_eq_true hd] at q; exact q)
  have WC := Lib.hid (fun (b : Nat) (v : Value) (w' : World) (h1 : Ext w w') (h2 : BX b [] v w') (h3 : Past w.heap.size b v) => by
    have q := writeAll _ e (Nat.lt_succ_self _) hok w b [] v w' 1 he ht h1 h2 h3 (by rw [par_one]; simp; omega)
    rw [par_one, List.nil_append] at q; exact q)
  have LC := Lib.hid (fun w' => limited_ok ⟨(txB e).toArray⟩ (by rw [Lib.size_eq]; exact hl) w')
  obtain ⟨T, hT⟩ : ∃ q, q = txB e := ⟨_, rfl⟩
  rw [← hT] at WC LC ⊢
  unfold E.v at IC SC WC ⊢
  obtain ⟨op, hop⟩ : ∃ q, q = e.op := ⟨_, rfl⟩
  obtain ⟨ev, hev⟩ : ∃ q, q = e.val := ⟨_, rfl⟩
  obtain ⟨s, hs⟩ : ∃ q, q = e.name := ⟨_, rfl⟩
  obtain ⟨a, ha⟩ : ∃ q, q = e.a := ⟨_, rfl⟩
  obtain ⟨c, hc⟩ : ∃ q, q = e.cap := ⟨_, rfl⟩
  obtain ⟨n, hn⟩ : ∃ q, q = e.args.length := ⟨_, rfl⟩
  rw [← hop, ← hev, ← hs, ← ha, ← hc, ← hn] at IC SC WC
  rw [← hop, ← hev, ← hs, ← ha, ← hc, ← hn]
  clear hT hop hev hs ha hc hn he ht hok hsz hd hl
  go_enter Tryd.func19, Tryd.ntmps19
  go_wp2_with fail
  refine (IC.out _ ((Ext.refl _).alloc _)).mono ?_; rintro e1 w1 ⟨rfl, x1⟩
  have c0 : w1.cell? ⟨w.heap.size, 0, none⟩ = some (.int .i64 op) := x1.cell (by simp)
  have c1 : w1.cell? ⟨w.heap.size, 1, none⟩ = some (.int .u64 (ev : Int)) := x1.cell (by simp)
  have c2 : w1.cell? ⟨w.heap.size, 2, none⟩ = some (.string s) := x1.cell (by simp)
  have c3 : w1.cell? ⟨w.heap.size, 3, none⟩ = some (.slice a n c) := x1.cell (by simp)
  have X := x1.box
  clear x1
  go_wp2_with fail
  refine (SC.out _ X).mono ?_; rintro e2 w2 ⟨rfl, x2⟩
  replace c0 := x2.cell c0
  replace c1 := x2.cell c1
  replace c2 := x2.cell c2
  replace c3 := x2.cell c3
  replace X := X.trans x2
  have HX := Lib.hid X
  clear x2
  have hb : (w2.alloc (.cells #[.pointer none, .slice none 0 0] 78)).heap[w2.heap.size]? = some (.cells #[.pointer none, .slice none 0 0] 78 (0, 0)) := heap_alloc_new w2 _
  have HBX := Lib.hid (BX.new hb)
  have HXA := Lib.hid (X.alloc (.cells #[.pointer none, .slice none 0 0] 78))
  have HP : Hid (Past w.heap.size w2.heap.size (.slice none 0 0)) := Lib.hid ⟨X.size, fun k hk => by simp [Value.ownBlock] at hk⟩
  have xa := (Ext.refl w2).alloc (.cells #[.pointer none, .slice none 0 0] 78)
  replace c0 := xa.cell c0
  replace c1 := xa.cell c1
  replace c2 := xa.cell c2
  replace c3 := xa.cell c3
  clear hb X xa
  go_wp2_with fail
  refine (WC.out _ _ _ HXA.out HBX.out HP.out).mono ?_; rintro e3 w3 ⟨rfl, v3, ha⟩
  have HB3 := Lib.hid ha.bx
  have HP3 := Lib.hid (ha.past (by have := HX.out.size; simp; omega) HP.out)
  have HX3 := Lib.hid (ha.ext HXA.out HP.out)
  clear ha c0 c1 c2 c3
  go_wp2_with fail
  refine (String_c _ 0 _ _ _ _ HB3.out HX3.out HP3.out).mono ?_; rintro e4 w4 ⟨rfl, x4, _⟩
  go_wp2_with fail
  refine (LC.out _).mono ?_; rintro e5 w5 ⟨rfl, rfl⟩
  go_wp2_with fail
  go_returns
  exact ⟨rfl, x4⟩
theorem name_c (s : ByteArray) (w : World) : Calls Tryd.prog 21 #[.string s] w fun r w' => r = .returned (.agg #[.int .i64 2, .int .u64 0, .string s, .slice none 0 0]) ∧ Ext w w' := by
  go_enter Tryd.func21, Tryd.ntmps21
  go_wp2
  go_returns
  exact ⟨rfl, by first | exact (Ext.refl _).alloc _ | exact ((Ext.refl _).alloc _).setNew (Nat.le_refl _) _⟩
end Go.Proofs.YtcheigpejbmaoaaDoor
