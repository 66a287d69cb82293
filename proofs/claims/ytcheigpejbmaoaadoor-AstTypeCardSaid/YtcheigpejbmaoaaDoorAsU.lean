/- Walk of AstType. -/
import Derived.Test.YtcheigpejbmaoaaDoorAsT
import Derived.Test.YtcheigpejbmaoaaDoorAsB
namespace Go.Proofs.YtcheigpejbmaoaaDoor
open Go.RowKit
set_option maxRecDepth 100000 in
set_option maxHeartbeats 2000000 in
theorem TypeText_ok (k b n : Int) (w : World) (ht : Tab w) (hok : tyOk k b n = true) : Calls Tryd.prog 14 #[.agg #[.int .i64 k, .int .i64 b, .int .i64 n]] w fun r w' => r = .returned (.tuple #[.string ⟨(tyTx k b n).toArray⟩, .int .i64 0]) ∧ Ext w w' := by
  have IC := Lib.hid (fun w' => by have q := isType_c k b n w'; rw [hok] at q; exact q)
  have TC := Lib.hid (fun w' (h : Ext w w') => typeText_c k b n w' (ht.ext h) hok)
  clear ht hok
  go_enter Tryd.func14, Tryd.ntmps14
  go_wp2_with fail
  refine (IC.out _).mono ?_; rintro e1 w1 ⟨rfl, x1⟩
  have c0 : w1.cell? ⟨w.heap.size, 0, none⟩ = some (.int .i64 k) := x1.cell (by simp)
  have c1 : w1.cell? ⟨w.heap.size, 1, none⟩ = some (.int .i64 b) := x1.cell (by simp)
  have c2 : w1.cell? ⟨w.heap.size, 2, none⟩ = some (.int .i64 n) := x1.cell (by simp)
  have X := x1.box
  clear x1
  go_wp2_with fail
  refine (TC.out _ X).mono ?_; rintro e2 w2 ⟨rfl, x2⟩
  replace X := X.trans x2
  clear x2 c0 c1 c2
  go_wp2_with fail
  go_returns
  exact ⟨rfl, X⟩
set_option maxRecDepth 100000 in
theorem TypeText_no (k b n : Int) (w : World) (hok : tyOk k b n = false) : Calls Tryd.prog 14 #[.agg #[.int .i64 k, .int .i64 b, .int .i64 n]] w fun r w' => r = .returned (.tuple #[.string ⟨#[]⟩, .int .i64 1]) ∧ Ext w w' := by
  have IC := Lib.hid (fun w' => by have q := isType_c k b n w'; rw [hok] at q; exact q)
  clear hok
  go_enter Tryd.func14, Tryd.ntmps14
  go_wp2_with fail
  refine (IC.out _).mono ?_; rintro e1 w1 ⟨rfl, x1⟩
  have X := x1.box
  clear x1
  go_wp2_with fail
  go_returns
  exact ⟨rfl, X⟩
set_option maxRecDepth 100000 in
set_option maxHeartbeats 2000000 in
theorem AstType_w (k b n : Int) (w : World) (ht : Tab w) : Calls Tryd.prog 5 #[.agg #[.int .i64 k, .int .i64 b, .int .i64 n]] w fun r w' => r = .returned (.bool true) ∧ Ext w w' := by
  have HT := Lib.hid ht
  have AC := Lib.hid awake_c
  clear ht
  cases hok : tyOk k b n
  · have TC := Lib.hid (fun w' => TypeText_no k b n w' hok)
    have RC := Lib.hid (fun w' => by have q := RType_c k b n w'; rw [hok] at q; exact q)
    clear hok
    go_enter Tryd.func5, Tryd.ntmps5
    go_wp2_with fail
    refine (AC.out _ (HT.out.ext ((Ext.refl _).alloc _))).mono ?_; rintro e1 w1 ⟨rfl, x1⟩
    have c0 : w1.cell? ⟨w.heap.size, 0, none⟩ = some (.int .i64 k) := x1.cell (by simp)
    have c1 : w1.cell? ⟨w.heap.size, 1, none⟩ = some (.int .i64 b) := x1.cell (by simp)
    have c2 : w1.cell? ⟨w.heap.size, 2, none⟩ = some (.int .i64 n) := x1.cell (by simp)
    have X := x1.box
    clear x1
    go_wp2_with fail
    refine (TC.out _).mono ?_; rintro e2 w2 ⟨rfl, x2⟩
    replace c0 := x2.cell c0
    replace c1 := x2.cell c1
    replace c2 := x2.cell c2
    replace X := X.trans x2
    clear x2
    go_wp2_with fail
    refine (RC.out _).mono ?_; rintro e3 w3 ⟨rfl, x3⟩
    replace X := X.trans x3
    clear x3 c0 c1 c2
    go_wp2_with fail
    go_ret
    exact ⟨rfl, X⟩
  · have TC := Lib.hid (fun w' (h : Ext w w') => TypeText_ok k b n w' (HT.out.ext h) hok)
    have RC := Lib.hid (fun w' => by have q := RType_c k b n w'; rw [hok] at q; exact q)
    have RT := Lib.hid (fun w' (h : Ext w w') => RTypeText_c k b n w' (HT.out.ext h) hok)
    obtain ⟨T, hT⟩ : ∃ T : ByteArray, T = ⟨(tyTx k b n).toArray⟩ := ⟨_, rfl⟩
    rw [← hT] at TC RT
    clear hok hT
    go_enter Tryd.func5, Tryd.ntmps5
    go_wp2_with fail
    refine (AC.out _ (HT.out.ext ((Ext.refl _).alloc _))).mono ?_; rintro e1 w1 ⟨rfl, x1⟩
    have c0 : w1.cell? ⟨w.heap.size, 0, none⟩ = some (.int .i64 k) := x1.cell (by simp)
    have c1 : w1.cell? ⟨w.heap.size, 1, none⟩ = some (.int .i64 b) := x1.cell (by simp)
    have c2 : w1.cell? ⟨w.heap.size, 2, none⟩ = some (.int .i64 n) := x1.cell (by simp)
    have X := x1.box
    clear x1
    go_wp2_with fail
    refine (TC.out _ X).mono ?_; rintro e2 w2 ⟨rfl, x2⟩
    replace c0 := x2.cell c0
    replace c1 := x2.cell c1
    replace c2 := x2.cell c2
    replace X := X.trans x2
    clear x2
    go_wp2_with fail
    refine (RC.out _).mono ?_; rintro e3 w3 ⟨rfl, x3⟩
    replace c0 := x3.cell c0
    replace c1 := x3.cell c1
    replace c2 := x3.cell c2
    replace X := X.trans x3
    clear x3
    go_wp2_with fail
    refine (RT.out _ X).mono ?_; rintro e4 w4 ⟨rfl, x4⟩
    replace X := X.trans x4
    clear x4 c0 c1 c2
    go_wp2_with fail
    go_ret
    exact ⟨rfl, X⟩
end Go.Proofs.YtcheigpejbmaoaaDoor
