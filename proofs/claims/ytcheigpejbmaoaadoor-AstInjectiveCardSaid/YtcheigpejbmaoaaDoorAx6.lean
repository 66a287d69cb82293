/- Equality of expressions, statements, functions, programs: the document. Printed by gen/ast6.py. -/
import Derived.Test.YtcheigpejbmaoaaDoorAx5
namespace Go.Proofs.YtcheigpejbmaoaaDoor
open Go.RowKit
set_option maxRecDepth 100000 in
set_option maxHeartbeats 8000000 in
theorem SameStmts_n : ∀ (m : Nat) (l l' : List S), S.szs l < m → ∀ (n n' : Nat) (_ : l.length = n) (_ : l'.length = n') (a a' : Option Addr) (c c' : Nat) (w : World), InB w a l → InB w a' l' →
    Calls Tryd.prog 29 #[.slice a n c, .slice a' n' c'] w fun r w' => r = .returned (.bool (eqL eqS l l')) ∧ Ext w w' := by
  intro m
  induction m with
  | zero => intro x y h; exact absurd h (by omega)
  | succ m ih =>
    intro l l' hm n n' hn hn' a a' c c' w hl hl'
    have IH := Lib.hid (fun (i : Nat) (u v : S) (hu : l[i]? = some u) w' h h' => ih u.body v.body (by have := S.szs_get hu; have := S.sz_eq u; omega) u.body.length v.body.length rfl rfl u.a v.a u.cap v.cap w' h h')
    have CE := Lib.hid (fun (x y : E) (w' : World) h h' => SameExpr_c x y w' h h')
    have HL := Lib.hid hl
    have HL' := Lib.hid hl'
    have hcap : n ≤ 9223372036854775807 := by rw [← hn]; exact Nat.le_trans hl.2 (by decide)
    have hcap' : n' ≤ 9223372036854775807 := by rw [← hn']; exact Nat.le_trans hl'.2 (by decide)
    by_cases hnn : n = n'
    · subst hnn
      have EL : Hid (eqL eqS l l' = (l.zip l').all fun z => eqS z.1 z.2) := Lib.hid (by unfold eqL; rw [hn, hn', decide_eq_true rfl, Bool.true_and])
      have HN := Lib.hid hn
      have HN' := Lib.hid hn'
      clear hl hl' hn hn' hm ih
      have ZL : Hid ((l.zip l').length = n) := Lib.hid (by rw [List.length_zip, HN.out, HN'.out, Nat.min_self])
      go_enter Tryd.func29, Tryd.ntmps29
      go_wp2_with fail
      go_loopw [5] (EvRel (fun z => eqS z.1 z.2) (l.zip l') w) (fun s _ => n - (intOf s).toNat)
      case atStart => exact ⟨0, rfl, Nat.zero_le _, fun k x hk => absurd hk (by omega), Ext.refl _⟩
      case round =>
        obtain ⟨j, rfl, hj, hall, hext⟩ := hrel
        rw [ZL.out] at hj
        have HX := Lib.hid hext
        have HA := Lib.hid hall
        clear hext hall
        by_cases hlt : j < n
        · obtain ⟨x, hxj⟩ := getE (l := l) (i := j) (by rw [HN.out]; exact hlt)
          obtain ⟨y, hyj⟩ := getE (l := l') (i := j) (by rw [HN'.out]; exact hlt)
          have HZ : Hid ((l.zip l')[j]? = some (x, y)) := Lib.hid (by rw [List.getElem?_zip_eq_some]; exact ⟨hxj, hyj⟩)
          obtain ⟨⟨b, o, rfl, k0, k1, k2, k3, k4, k5, k6, k7, k8, k9, k10, k11, k12⟩, hin⟩ := (HL.out.to HX.out).at hxj
          obtain ⟨⟨b', o', rfl, m0, m1, m2, m3, m4, m5, m6, m7, m8, m9, m10, m11, m12⟩, hin'⟩ := (HL'.out.to HX.out).at hyj
          have PE := CE.out x.e y.e
          have PS := IH.out j x y hxj
          have TE := fun W => run_neqT W x.t y.t
          have EQ := eqS_eq x y
          obtain ⟨B3, hB3⟩ : ∃ B, B = eqL eqS x.body y.body := ⟨_, rfl⟩
          obtain ⟨B2, hB2⟩ : ∃ B, B = eqE x.e y.e := ⟨_, rfl⟩
          obtain ⟨B1, hB1⟩ : ∃ B, B = eqT x.t y.t := ⟨_, rfl⟩
          obtain ⟨R, hR⟩ : ∃ R, R = eqS x y := ⟨_, rfl⟩
          rw [← hB3] at PS EQ
          rw [← hB2] at PE EQ
          rw [← hB1] at EQ
          simp only [← hB1] at TE
          rw [← hR] at EQ
          have HR := Lib.hid hR
          have HIN := Lib.hid hin
          have HIN' := Lib.hid hin'
          have LI := hin.l
          have LI' := hin'.l
          clear hxj hyj hB1 hB2 hB3 hR hin hin'
          unfold E.v at PE
          unfold Ty.v at TE
          obtain ⟨xq0, hxq0⟩ : ∃ q, q = x.kind := ⟨_, rfl⟩
          obtain ⟨xq1, hxq1⟩ : ∃ q, q = x.name := ⟨_, rfl⟩
          obtain ⟨xq2, hxq2⟩ : ∃ q, q = x.typed := ⟨_, rfl⟩
          obtain ⟨xq3, hxq3⟩ : ∃ q, q = x.t.k := ⟨_, rfl⟩
          obtain ⟨xq4, hxq4⟩ : ∃ q, q = x.t.b := ⟨_, rfl⟩
          obtain ⟨xq5, hxq5⟩ : ∃ q, q = x.t.n := ⟨_, rfl⟩
          obtain ⟨xq6, hxq6⟩ : ∃ q, q = x.e.op := ⟨_, rfl⟩
          obtain ⟨xq7, hxq7⟩ : ∃ q, q = x.e.val := ⟨_, rfl⟩
          obtain ⟨xq8, hxq8⟩ : ∃ q, q = x.e.name := ⟨_, rfl⟩
          obtain ⟨xq9, hxq9⟩ : ∃ q, q = x.e.a := ⟨_, rfl⟩
          obtain ⟨xq10, hxq10⟩ : ∃ q, q = x.e.args.length := ⟨_, rfl⟩
          obtain ⟨xq11, hxq11⟩ : ∃ q, q = x.e.cap := ⟨_, rfl⟩
          obtain ⟨xq12, hxq12⟩ : ∃ q, q = x.lo := ⟨_, rfl⟩
          obtain ⟨xq13, hxq13⟩ : ∃ q, q = x.hi := ⟨_, rfl⟩
          obtain ⟨xq14, hxq14⟩ : ∃ q, q = x.a := ⟨_, rfl⟩
          obtain ⟨xq15, hxq15⟩ : ∃ q, q = x.body.length := ⟨_, rfl⟩
          obtain ⟨xq16, hxq16⟩ : ∃ q, q = x.cap := ⟨_, rfl⟩
          simp only [← hxq0, ← hxq1, ← hxq2, ← hxq3, ← hxq4, ← hxq5, ← hxq6, ← hxq7, ← hxq8, ← hxq9, ← hxq10, ← hxq11, ← hxq12, ← hxq13, ← hxq14, ← hxq15, ← hxq16] at k0 k1 k2 k3 k4 k5 k6 k7 k8 k9 k10 k11 k12 PE PS TE EQ LI
          clear hxq0 hxq1 hxq2 hxq3 hxq4 hxq5 hxq6 hxq7 hxq8 hxq9 hxq10 hxq11 hxq12 hxq13 hxq14 hxq15 hxq16
          obtain ⟨yq0, hyq0⟩ : ∃ q, q = y.kind := ⟨_, rfl⟩
          obtain ⟨yq1, hyq1⟩ : ∃ q, q = y.name := ⟨_, rfl⟩
          obtain ⟨yq2, hyq2⟩ : ∃ q, q = y.typed := ⟨_, rfl⟩
          obtain ⟨yq3, hyq3⟩ : ∃ q, q = y.t.k := ⟨_, rfl⟩
          obtain ⟨yq4, hyq4⟩ : ∃ q, q = y.t.b := ⟨_, rfl⟩
          obtain ⟨yq5, hyq5⟩ : ∃ q, q = y.t.n := ⟨_, rfl⟩
          obtain ⟨yq6, hyq6⟩ : ∃ q, q = y.e.op := ⟨_, rfl⟩
          obtain ⟨yq7, hyq7⟩ : ∃ q, q = y.e.val := ⟨_, rfl⟩
          obtain ⟨yq8, hyq8⟩ : ∃ q, q = y.e.name := ⟨_, rfl⟩
          obtain ⟨yq9, hyq9⟩ : ∃ q, q = y.e.a := ⟨_, rfl⟩
          obtain ⟨yq10, hyq10⟩ : ∃ q, q = y.e.args.length := ⟨_, rfl⟩
          obtain ⟨yq11, hyq11⟩ : ∃ q, q = y.e.cap := ⟨_, rfl⟩
          obtain ⟨yq12, hyq12⟩ : ∃ q, q = y.lo := ⟨_, rfl⟩
          obtain ⟨yq13, hyq13⟩ : ∃ q, q = y.hi := ⟨_, rfl⟩
          obtain ⟨yq14, hyq14⟩ : ∃ q, q = y.a := ⟨_, rfl⟩
          obtain ⟨yq15, hyq15⟩ : ∃ q, q = y.body.length := ⟨_, rfl⟩
          obtain ⟨yq16, hyq16⟩ : ∃ q, q = y.cap := ⟨_, rfl⟩
          simp only [← hyq0, ← hyq1, ← hyq2, ← hyq3, ← hyq4, ← hyq5, ← hyq6, ← hyq7, ← hyq8, ← hyq9, ← hyq10, ← hyq11, ← hyq12, ← hyq13, ← hyq14, ← hyq15, ← hyq16] at m0 m1 m2 m3 m4 m5 m6 m7 m8 m9 m10 m11 m12 PE PS TE EQ LI'
          clear hyq0 hyq1 hyq2 hyq3 hyq4 hyq5 hyq6 hyq7 hyq8 hyq9 hyq10 hyq11 hyq12 hyq13 hyq14 hyq15 hyq16
          replace PE := Lib.hid PE
          replace PS := Lib.hid PS
          replace LI := Lib.hid LI
          replace LI' := Lib.hid LI'
          replace EQ := Lib.hid EQ
          go_wp2_with fail
          have hb1 : b < wr.heap.size := World.block_lt_of_cell? wr _ k0
          have hb2 : b' < wr.heap.size := World.block_lt_of_cell? wr _ m0
          go_region
          · obtain ⟨ww, hww⟩ : ∃ q, q = ((wr.alloc (.cells #[.int .i64 xq0, .string xq1, .bool xq2, .int .i64 xq3, .int .i64 xq4, .int .i64 xq5, .int .i64 xq6, .int .u64 (xq7 : Int), .string xq8, .slice xq9 xq10 xq11, .int .i64 xq12, .int .i64 xq13, .slice xq14 xq15 xq16] 61)).alloc (.cells #[.int .i64 yq0, .string yq1, .bool yq2, .int .i64 yq3, .int .i64 yq4, .int .i64 yq5, .int .i64 yq6, .int .u64 (yq7 : Int), .string yq8, .slice yq9 yq10 yq11, .int .i64 yq12, .int .i64 yq13, .slice yq14 yq15 yq16] 61)).drew := ⟨_, rfl⟩
            have c0 : ww.cell? ⟨wr.heap.size, 0, none⟩ = some (.int .i64 xq0) := by rw [hww]; simp
            have d0 : ww.cell? ⟨wr.heap.size + 1, 0, none⟩ = some (.int .i64 yq0) := by rw [hww]; simp
            have c1 : ww.cell? ⟨wr.heap.size, 1, none⟩ = some (.string xq1) := by rw [hww]; simp
            have d1 : ww.cell? ⟨wr.heap.size + 1, 1, none⟩ = some (.string yq1) := by rw [hww]; simp
            have c2 : ww.cell? ⟨wr.heap.size, 2, none⟩ = some (.bool xq2) := by rw [hww]; simp
            have d2 : ww.cell? ⟨wr.heap.size + 1, 2, none⟩ = some (.bool yq2) := by rw [hww]; simp
            have c3 : ww.cell? ⟨wr.heap.size, 3, none⟩ = some (.int .i64 xq3) := by rw [hww]; simp
            have d3 : ww.cell? ⟨wr.heap.size + 1, 3, none⟩ = some (.int .i64 yq3) := by rw [hww]; simp
            have c4 : ww.cell? ⟨wr.heap.size, 4, none⟩ = some (.int .i64 xq4) := by rw [hww]; simp
            have d4 : ww.cell? ⟨wr.heap.size + 1, 4, none⟩ = some (.int .i64 yq4) := by rw [hww]; simp
            have c5 : ww.cell? ⟨wr.heap.size, 5, none⟩ = some (.int .i64 xq5) := by rw [hww]; simp
            have d5 : ww.cell? ⟨wr.heap.size + 1, 5, none⟩ = some (.int .i64 yq5) := by rw [hww]; simp
            have c6 : ww.cell? ⟨wr.heap.size, 6, none⟩ = some (.int .i64 xq6) := by rw [hww]; simp
            have d6 : ww.cell? ⟨wr.heap.size + 1, 6, none⟩ = some (.int .i64 yq6) := by rw [hww]; simp
            have c7 : ww.cell? ⟨wr.heap.size, 7, none⟩ = some (.int .u64 (xq7 : Int)) := by rw [hww]; simp
            have d7 : ww.cell? ⟨wr.heap.size + 1, 7, none⟩ = some (.int .u64 (yq7 : Int)) := by rw [hww]; simp
            have c8 : ww.cell? ⟨wr.heap.size, 8, none⟩ = some (.string xq8) := by rw [hww]; simp
            have d8 : ww.cell? ⟨wr.heap.size + 1, 8, none⟩ = some (.string yq8) := by rw [hww]; simp
            have c9 : ww.cell? ⟨wr.heap.size, 9, none⟩ = some (.slice xq9 xq10 xq11) := by rw [hww]; simp
            have d9 : ww.cell? ⟨wr.heap.size + 1, 9, none⟩ = some (.slice yq9 yq10 yq11) := by rw [hww]; simp
            have c10 : ww.cell? ⟨wr.heap.size, 10, none⟩ = some (.int .i64 xq12) := by rw [hww]; simp
            have d10 : ww.cell? ⟨wr.heap.size + 1, 10, none⟩ = some (.int .i64 yq12) := by rw [hww]; simp
            have c11 : ww.cell? ⟨wr.heap.size, 11, none⟩ = some (.int .i64 xq13) := by rw [hww]; simp
            have d11 : ww.cell? ⟨wr.heap.size + 1, 11, none⟩ = some (.int .i64 yq13) := by rw [hww]; simp
            have c12 : ww.cell? ⟨wr.heap.size, 12, none⟩ = some (.slice xq14 xq15 xq16) := by rw [hww]; simp
            have d12 : ww.cell? ⟨wr.heap.size + 1, 12, none⟩ = some (.slice yq14 yq15 yq16) := by rw [hww]; simp
            have X : Ext wr ww := by rw [hww]; exact (((Ext.refl _).alloc _).alloc _).drew
            rw [← hww]
            clear hww
            clear k0 k1 k2 k3 k4 k5 k6 k7 k8 k9 k10 k11 k12 m0 m1 m2 m3 m4 m5 m6 m7 m8 m9 m10 m11 m12
            by_cases e0 : xq0 = yq0
            · subst e0
              by_cases e1 : xq1 = yq1
              · subst e1
                by_cases e2 : xq2 = yq2
                · subst e2
                  cases B1
                  · go_wp2_with fail
                    go_ret
                    have ER : R = false := by rw [EQ.out]; simp [*]
                    have EA : eqL eqS l l' = false := by rw [EL.out]; exact evNot HZ.out (HR.out.symm.trans ER)
                    exact ⟨by go_light; simp [EA], HX.out.trans X⟩
                  · by_cases e4 : xq12 = yq12
                    · subst e4
                      by_cases e5 : xq13 = yq13
                      · subst e5
                        go_wp2_with fail
                        refine (PE.out _ (HIN.out.e.to X) (HIN'.out.e.to X)).mono ?_; rintro e1 w1 ⟨rfl, x1⟩
                        replace c12 := x1.cell c12
                        replace d12 := x1.cell d12
                        clear c0 d0 c1 d1 c2 d2 c3 d3 c4 d4 c5 d5 c6 d6 c7 d7 c8 d8 c9 d9 c10 d10 c11 d11
                        replace X := X.trans x1
                        clear x1
                        cases B2
                        · go_wp2_with fail
                          go_ret
                          have ER : R = false := by rw [EQ.out]; simp [*]
                          have EA : eqL eqS l l' = false := by rw [EL.out]; exact evNot HZ.out (HR.out.symm.trans ER)
                          exact ⟨by go_light; simp [EA], HX.out.trans X⟩
                        · go_wp2_with fail
                          refine (PS.out _ (LI.out.to X) (LI'.out.to X)).mono ?_; rintro e2 w2 ⟨rfl, x2⟩
                          clear c12 d12
                          replace X := X.trans x2
                          clear x2
                          cases B3
                          · go_wp2_with fail
                            go_ret
                            have ER : R = false := by rw [EQ.out]; simp [*]
                            have EA : eqL eqS l l' = false := by rw [EL.out]; exact evNot HZ.out (HR.out.symm.trans ER)
                            exact ⟨by go_light; simp [EA], HX.out.trans X⟩
                          · go_wp2_with fail
                            go_roundw
                            case rel =>
                              have ER : R = true := by rw [EQ.out]; simp [strEq]
                              exact ⟨j + 1, by go_num, by rw [ZL.out]; omega, evStep HZ.out (HR.out.symm.trans ER) HA.out, HX.out.trans X⟩
                            case measure => simp [intOf]; omega
                      · have t5 : (xq13 == yq13) = false := beq_eq_false_iff_ne.2 e5
                        go_wp2_with fail
                        go_ret
                        have ER : R = false := by rw [EQ.out]; simp [*]
                        have EA : eqL eqS l l' = false := by rw [EL.out]; exact evNot HZ.out (HR.out.symm.trans ER)
                        exact ⟨by go_light; simp [EA], HX.out.trans X⟩
                    · have t4 : (xq12 == yq12) = false := beq_eq_false_iff_ne.2 e4
                      go_wp2_with fail
                      go_ret
                      have ER : R = false := by rw [EQ.out]; simp [*]
                      have EA : eqL eqS l l' = false := by rw [EL.out]; exact evNot HZ.out (HR.out.symm.trans ER)
                      exact ⟨by go_light; simp [EA], HX.out.trans X⟩
                · have t2 : (xq2 == yq2) = false := beq_eq_false_iff_ne.2 e2
                  go_wp2_with fail
                  go_ret
                  have ER : R = false := by rw [EQ.out]; simp [*]
                  have EA : eqL eqS l l' = false := by rw [EL.out]; exact evNot HZ.out (HR.out.symm.trans ER)
                  exact ⟨by go_light; simp [EA], HX.out.trans X⟩
              · have s1 : strEq xq1 yq1 = false := decide_eq_false e1
                have t1 : (xq1.toList == yq1.toList) = false := by rw [toL_eq]; exact s1
                go_wp2_with fail
                go_ret
                have ER : R = false := by rw [EQ.out]; simp [*]
                have EA : eqL eqS l l' = false := by rw [EL.out]; exact evNot HZ.out (HR.out.symm.trans ER)
                exact ⟨by go_light; simp [EA], HX.out.trans X⟩
            · have t0 : (xq0 == yq0) = false := beq_eq_false_iff_ne.2 e0
              go_wp2_with fail
              go_ret
              have ER : R = false := by rw [EQ.out]; simp [*]
              have EA : eqL eqS l l' = false := by rw [EL.out]; exact evNot HZ.out (HR.out.symm.trans ER)
              exact ⟨by go_light; simp [EA], HX.out.trans X⟩
          · obtain ⟨ww, hww⟩ : ∃ q, q = ((wr.alloc (.cells #[.int .i64 yq0, .string yq1, .bool yq2, .int .i64 yq3, .int .i64 yq4, .int .i64 yq5, .int .i64 yq6, .int .u64 (yq7 : Int), .string yq8, .slice yq9 yq10 yq11, .int .i64 yq12, .int .i64 yq13, .slice yq14 yq15 yq16] 61)).alloc (.cells #[.int .i64 xq0, .string xq1, .bool xq2, .int .i64 xq3, .int .i64 xq4, .int .i64 xq5, .int .i64 xq6, .int .u64 (xq7 : Int), .string xq8, .slice xq9 xq10 xq11, .int .i64 xq12, .int .i64 xq13, .slice xq14 xq15 xq16] 61)).drew := ⟨_, rfl⟩
            have c0 : ww.cell? ⟨wr.heap.size + 1, 0, none⟩ = some (.int .i64 xq0) := by rw [hww]; simp
            have d0 : ww.cell? ⟨wr.heap.size, 0, none⟩ = some (.int .i64 yq0) := by rw [hww]; simp
            have c1 : ww.cell? ⟨wr.heap.size + 1, 1, none⟩ = some (.string xq1) := by rw [hww]; simp
            have d1 : ww.cell? ⟨wr.heap.size, 1, none⟩ = some (.string yq1) := by rw [hww]; simp
            have c2 : ww.cell? ⟨wr.heap.size + 1, 2, none⟩ = some (.bool xq2) := by rw [hww]; simp
            have d2 : ww.cell? ⟨wr.heap.size, 2, none⟩ = some (.bool yq2) := by rw [hww]; simp
            have c3 : ww.cell? ⟨wr.heap.size + 1, 3, none⟩ = some (.int .i64 xq3) := by rw [hww]; simp
            have d3 : ww.cell? ⟨wr.heap.size, 3, none⟩ = some (.int .i64 yq3) := by rw [hww]; simp
            have c4 : ww.cell? ⟨wr.heap.size + 1, 4, none⟩ = some (.int .i64 xq4) := by rw [hww]; simp
            have d4 : ww.cell? ⟨wr.heap.size, 4, none⟩ = some (.int .i64 yq4) := by rw [hww]; simp
            have c5 : ww.cell? ⟨wr.heap.size + 1, 5, none⟩ = some (.int .i64 xq5) := by rw [hww]; simp
            have d5 : ww.cell? ⟨wr.heap.size, 5, none⟩ = some (.int .i64 yq5) := by rw [hww]; simp
            have c6 : ww.cell? ⟨wr.heap.size + 1, 6, none⟩ = some (.int .i64 xq6) := by rw [hww]; simp
            have d6 : ww.cell? ⟨wr.heap.size, 6, none⟩ = some (.int .i64 yq6) := by rw [hww]; simp
            have c7 : ww.cell? ⟨wr.heap.size + 1, 7, none⟩ = some (.int .u64 (xq7 : Int)) := by rw [hww]; simp
            have d7 : ww.cell? ⟨wr.heap.size, 7, none⟩ = some (.int .u64 (yq7 : Int)) := by rw [hww]; simp
            have c8 : ww.cell? ⟨wr.heap.size + 1, 8, none⟩ = some (.string xq8) := by rw [hww]; simp
            have d8 : ww.cell? ⟨wr.heap.size, 8, none⟩ = some (.string yq8) := by rw [hww]; simp
            have c9 : ww.cell? ⟨wr.heap.size + 1, 9, none⟩ = some (.slice xq9 xq10 xq11) := by rw [hww]; simp
            have d9 : ww.cell? ⟨wr.heap.size, 9, none⟩ = some (.slice yq9 yq10 yq11) := by rw [hww]; simp
            have c10 : ww.cell? ⟨wr.heap.size + 1, 10, none⟩ = some (.int .i64 xq12) := by rw [hww]; simp
            have d10 : ww.cell? ⟨wr.heap.size, 10, none⟩ = some (.int .i64 yq12) := by rw [hww]; simp
            have c11 : ww.cell? ⟨wr.heap.size + 1, 11, none⟩ = some (.int .i64 xq13) := by rw [hww]; simp
            have d11 : ww.cell? ⟨wr.heap.size, 11, none⟩ = some (.int .i64 yq13) := by rw [hww]; simp
            have c12 : ww.cell? ⟨wr.heap.size + 1, 12, none⟩ = some (.slice xq14 xq15 xq16) := by rw [hww]; simp
            have d12 : ww.cell? ⟨wr.heap.size, 12, none⟩ = some (.slice yq14 yq15 yq16) := by rw [hww]; simp
            have X : Ext wr ww := by rw [hww]; exact (((Ext.refl _).alloc _).alloc _).drew
            rw [← hww]
            clear hww
            clear k0 k1 k2 k3 k4 k5 k6 k7 k8 k9 k10 k11 k12 m0 m1 m2 m3 m4 m5 m6 m7 m8 m9 m10 m11 m12
            by_cases e0 : xq0 = yq0
            · subst e0
              by_cases e1 : xq1 = yq1
              · subst e1
                by_cases e2 : xq2 = yq2
                · subst e2
                  cases B1
                  · go_wp2_with fail
                    go_ret
                    have ER : R = false := by rw [EQ.out]; simp [*]
                    have EA : eqL eqS l l' = false := by rw [EL.out]; exact evNot HZ.out (HR.out.symm.trans ER)
                    exact ⟨by go_light; simp [EA], HX.out.trans X⟩
                  · by_cases e4 : xq12 = yq12
                    · subst e4
                      by_cases e5 : xq13 = yq13
                      · subst e5
                        go_wp2_with fail
                        refine (PE.out _ (HIN.out.e.to X) (HIN'.out.e.to X)).mono ?_; rintro e1 w1 ⟨rfl, x1⟩
                        replace c12 := x1.cell c12
                        replace d12 := x1.cell d12
                        clear c0 d0 c1 d1 c2 d2 c3 d3 c4 d4 c5 d5 c6 d6 c7 d7 c8 d8 c9 d9 c10 d10 c11 d11
                        replace X := X.trans x1
                        clear x1
                        cases B2
                        · go_wp2_with fail
                          go_ret
                          have ER : R = false := by rw [EQ.out]; simp [*]
                          have EA : eqL eqS l l' = false := by rw [EL.out]; exact evNot HZ.out (HR.out.symm.trans ER)
                          exact ⟨by go_light; simp [EA], HX.out.trans X⟩
                        · go_wp2_with fail
                          refine (PS.out _ (LI.out.to X) (LI'.out.to X)).mono ?_; rintro e2 w2 ⟨rfl, x2⟩
                          clear c12 d12
                          replace X := X.trans x2
                          clear x2
                          cases B3
                          · go_wp2_with fail
                            go_ret
                            have ER : R = false := by rw [EQ.out]; simp [*]
                            have EA : eqL eqS l l' = false := by rw [EL.out]; exact evNot HZ.out (HR.out.symm.trans ER)
                            exact ⟨by go_light; simp [EA], HX.out.trans X⟩
                          · go_wp2_with fail
                            go_roundw
                            case rel =>
                              have ER : R = true := by rw [EQ.out]; simp [strEq]
                              exact ⟨j + 1, by go_num, by rw [ZL.out]; omega, evStep HZ.out (HR.out.symm.trans ER) HA.out, HX.out.trans X⟩
                            case measure => simp [intOf]; omega
                      · have t5 : (xq13 == yq13) = false := beq_eq_false_iff_ne.2 e5
                        go_wp2_with fail
                        go_ret
                        have ER : R = false := by rw [EQ.out]; simp [*]
                        have EA : eqL eqS l l' = false := by rw [EL.out]; exact evNot HZ.out (HR.out.symm.trans ER)
                        exact ⟨by go_light; simp [EA], HX.out.trans X⟩
                    · have t4 : (xq12 == yq12) = false := beq_eq_false_iff_ne.2 e4
                      go_wp2_with fail
                      go_ret
                      have ER : R = false := by rw [EQ.out]; simp [*]
                      have EA : eqL eqS l l' = false := by rw [EL.out]; exact evNot HZ.out (HR.out.symm.trans ER)
                      exact ⟨by go_light; simp [EA], HX.out.trans X⟩
                · have t2 : (xq2 == yq2) = false := beq_eq_false_iff_ne.2 e2
                  go_wp2_with fail
                  go_ret
                  have ER : R = false := by rw [EQ.out]; simp [*]
                  have EA : eqL eqS l l' = false := by rw [EL.out]; exact evNot HZ.out (HR.out.symm.trans ER)
                  exact ⟨by go_light; simp [EA], HX.out.trans X⟩
              · have s1 : strEq xq1 yq1 = false := decide_eq_false e1
                have t1 : (xq1.toList == yq1.toList) = false := by rw [toL_eq]; exact s1
                go_wp2_with fail
                go_ret
                have ER : R = false := by rw [EQ.out]; simp [*]
                have EA : eqL eqS l l' = false := by rw [EL.out]; exact evNot HZ.out (HR.out.symm.trans ER)
                exact ⟨by go_light; simp [EA], HX.out.trans X⟩
            · have t0 : (xq0 == yq0) = false := beq_eq_false_iff_ne.2 e0
              go_wp2_with fail
              go_ret
              have ER : R = false := by rw [EQ.out]; simp [*]
              have EA : eqL eqS l l' = false := by rw [EL.out]; exact evNot HZ.out (HR.out.symm.trans ER)
              exact ⟨by go_light; simp [EA], HX.out.trans X⟩
        · obtain rfl : j = n := by omega
          go_wp2_with fail
          go_ret
          have EA : eqL eqS l l' = true := by rw [EL.out]; exact evAll ZL.out HA.out
          exact ⟨by go_light; simp [EA], HX.out⟩
    · have EL : Hid (eqL eqS l l' = false) := Lib.hid (by unfold eqL; rw [hn, hn', decide_eq_false hnn, Bool.false_and])
      have t1 : ((n : Int) == (n' : Int)) = false := beq_eq_false_iff_ne.2 (by omega)
      rw [EL.out]
      clear hl hl' hn hn' EL HL HL' hcap hcap' hnn ih IH hm
      go_enter Tryd.func29, Tryd.ntmps29
      go_wp2_with fail
      go_ret
      exact ⟨rfl, Ext.refl _⟩
theorem SameStmts_c (l l' : List S) (n n' : Nat) (hn : l.length = n) (hn' : l'.length = n') (a a' : Option Addr) (c c' : Nat) (w : World) (h : InB w a l) (h' : InB w a' l') :
    Calls Tryd.prog 29 #[.slice a n c, .slice a' n' c'] w fun r w' => r = .returned (.bool (eqL eqS l l')) ∧ Ext w w' := SameStmts_n _ l l' (Nat.lt_succ_self _) n n' hn hn' a a' c c' w h h'
end Go.Proofs.YtcheigpejbmaoaaDoor
