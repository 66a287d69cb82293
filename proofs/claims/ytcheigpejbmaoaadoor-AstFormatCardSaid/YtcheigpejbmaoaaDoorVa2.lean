/- Is a statement, a function well-formed? The package. Printed by gen/val2.py. -/
import Derived.Test.YtcheigpejbmaoaaDoorVa1
namespace Go.Proofs.YtcheigpejbmaoaaDoor
open Go.RowKit
set_option maxRecDepth 100000 in
set_option maxHeartbeats 16000000 in
theorem isStmt_n : ∀ (m : Nat) (x : S), S.sz x < m → ∀ w, InS w x → Calls Tryd.prog 36 #[x.v] w fun r w' => r = .returned (.bool (okS x)) ∧ Ext w w' := by
  intro m
  induction m with
  | zero => intro x h; exact absurd h (by omega)
  | succ m ih =>
    intro x hm w hx
    have EV := fun w' h => everyS_c okS x.body x.body.length rfl x.a x.cap w' h (fun i u hu w2 h2 => ih u (by have := S.sz_arg hu; omega) w2 h2)
    have NC := fun w' => IsName_c x.name w'
    have TC := fun w' => isType_c x.t.k x.t.b x.t.n w'
    have XC := fun w' h => isExpr_c x.e w' h
    have UC := fun w' => isUntyped_c x w'
    have MC := fun w' => isEmpty_c x.e w'
    have LC1 := fun w' => isLoop_c x.lo w'
    have LC2 := fun w' => isLoop_c x.hi w'
    have TE := fun W => run_eqlT W x.t ⟨0, 0, 0⟩
    have TN := fun W => run_neqT W x.t ⟨0, 0, 0⟩
    have EQ := okS_eq x
    have tl := beqD x.lo 0
    have th := beqD x.hi 0
    have tk := beqN x.body.length
    have ts := toL_empty x.name
    have HL := hx.l
    have HE := Lib.hid hx.e
    have hcap : x.body.length ≤ 9223372036854775807 := Nat.le_trans hx.l.2 (by decide)
    obtain ⟨R, hR⟩ : ∃ R, R = okS x := ⟨_, rfl⟩
    rw [← hR] at EQ ⊢
    rw [tyZ] at TE TN
    unfold Ty.v at TE TN
    unfold S.v at UC ⊢
    unfold E.v at XC MC
    obtain ⟨Bu, hBu⟩ : ∃ q, q = (!x.typed && eqT x.t ⟨0, 0, 0⟩) := ⟨_, rfl⟩
    simp only [← hBu] at EQ UC
    clear hBu
    obtain ⟨Bn, hBn⟩ : ∃ q, q = nameOk x.name := ⟨_, rfl⟩
    obtain ⟨Bt, hBt⟩ : ∃ q, q = tyOk x.t.k x.t.b x.t.n := ⟨_, rfl⟩
    obtain ⟨Bz, hBz⟩ : ∃ q, q = eqT x.t ⟨0, 0, 0⟩ := ⟨_, rfl⟩
    obtain ⟨Be, hBe⟩ : ∃ q, q = okE x.e := ⟨_, rfl⟩
    obtain ⟨Bm, hBm⟩ : ∃ q, q = emE x.e := ⟨_, rfl⟩
    obtain ⟨Bs, hBs⟩ : ∃ q, q = decide (x.name.size = 0) := ⟨_, rfl⟩
    obtain ⟨Bl, hBl⟩ : ∃ q, q = decide (x.lo = 0) := ⟨_, rfl⟩
    obtain ⟨Bh, hBh⟩ : ∃ q, q = decide (x.hi = 0) := ⟨_, rfl⟩
    obtain ⟨Bk, hBk⟩ : ∃ q, q = decide (x.body.length = 0) := ⟨_, rfl⟩
    obtain ⟨Bp, hBp⟩ : ∃ q, q = lpN x.lo := ⟨_, rfl⟩
    obtain ⟨Bq, hBq⟩ : ∃ q, q = lpN x.hi := ⟨_, rfl⟩
    obtain ⟨Bb, hBb⟩ : ∃ q, q = x.body.all okS := ⟨_, rfl⟩
    simp only [← hBn, ← hBt, ← hBz, ← hBe, ← hBm, ← hBs, ← hBl, ← hBh, ← hBk, ← hBp, ← hBq, ← hBb] at EQ NC TC TE TN XC MC LC1 LC2 EV tl th tk ts
    clear hBn hBt hBz hBe hBm hBs hBl hBh hBk hBp hBq hBb
    clear hR hx hm ih
    obtain ⟨xq0, hxq0⟩ : ∃ q, q = x.kind := ⟨_, rfl⟩
    obtain ⟨xq1, hxq1⟩ : ∃ q, q = x.name := ⟨_, rfl⟩
    obtain ⟨xq2, hxq2⟩ : ∃ q, q = x.typed := ⟨_, rfl⟩
    obtain ⟨xq3, hxq3⟩ : ∃ q, q = x.t.k := ⟨_, rfl⟩
    obtain ⟨xq4, hxq4⟩ : ∃ q, q = x.t.b := ⟨_, rfl⟩
    obtain ⟨xq5, hxq5⟩ : ∃ q, q = x.t.n := ⟨_, rfl⟩
    obtain ⟨xq6, hxq6⟩ : ∃ q, q = x.e.op := ⟨_, rfl⟩
    obtain ⟨xq7, hxq7⟩ : ∃ q, q = x.e.val := ⟨_, rfl⟩
    obtain ⟨xq8, hxq8⟩ : ∃ q, q = x.e.name := ⟨_, rfl⟩
    obtain ⟨xq9, hxq9⟩ : ∃ q, q = x.e.a := ⟨_, rfl⟩
    obtain ⟨xq10, hxq10⟩ : ∃ q, q = x.e.args.length := ⟨_, rfl⟩
    obtain ⟨xq11, hxq11⟩ : ∃ q, q = x.e.cap := ⟨_, rfl⟩
    obtain ⟨xq12, hxq12⟩ : ∃ q, q = x.lo := ⟨_, rfl⟩
    obtain ⟨xq13, hxq13⟩ : ∃ q, q = x.hi := ⟨_, rfl⟩
    obtain ⟨xq14, hxq14⟩ : ∃ q, q = x.a := ⟨_, rfl⟩
    obtain ⟨xq15, hxq15⟩ : ∃ q, q = x.body.length := ⟨_, rfl⟩
    obtain ⟨xq16, hxq16⟩ : ∃ q, q = x.cap := ⟨_, rfl⟩
    simp only [← hxq0, ← hxq1, ← hxq2, ← hxq3, ← hxq4, ← hxq5, ← hxq6, ← hxq7, ← hxq8, ← hxq9, ← hxq10, ← hxq11, ← hxq12, ← hxq13, ← hxq14, ← hxq15, ← hxq16] at EQ NC TC XC UC MC LC1 LC2 EV TN TE tl th tk ts HL ⊢ hcap
    clear hxq0 hxq1 hxq2 hxq3 hxq4 hxq5 hxq6 hxq7 hxq8 hxq9 hxq10 hxq11 hxq12 hxq13 hxq14 hxq15 hxq16
    replace EQ := Lib.hid EQ
    replace EV := Lib.hid EV
    replace NC := Lib.hid NC
    replace TC := Lib.hid TC
    replace XC := Lib.hid XC
    replace UC := Lib.hid UC
    replace MC := Lib.hid MC
    replace LC1 := Lib.hid LC1
    replace LC2 := Lib.hid LC2
    replace HL := Lib.hid HL
    by_cases h1 : xq0 = 1
    · subst h1
      go_enter Tryd.func36, Tryd.ntmps36
      cases xq2
      · cases Bz
        · go_wp2_with fail
          go_ret
          exact ⟨by go_light; simp [EQ.out], by first | exact Ext.refl _ | exact (Ext.refl _).alloc _⟩
        · go_wp2_with fail
          refine (NC.out _).mono ?_; rintro e1 w1 ⟨rfl, x1⟩
          have c6 : w1.cell? ⟨w.heap.size, 6, none⟩ = some (.int .i64 xq6) := x1.cell (by simp)
          have c7 : w1.cell? ⟨w.heap.size, 7, none⟩ = some (.int .u64 (xq7 : Int)) := x1.cell (by simp)
          have c8 : w1.cell? ⟨w.heap.size, 8, none⟩ = some (.string xq8) := x1.cell (by simp)
          have c9 : w1.cell? ⟨w.heap.size, 9, none⟩ = some (.slice xq9 xq10 xq11) := x1.cell (by simp)
          have c10 : w1.cell? ⟨w.heap.size, 10, none⟩ = some (.int .i64 xq12) := x1.cell (by simp)
          have c11 : w1.cell? ⟨w.heap.size, 11, none⟩ = some (.int .i64 xq13) := x1.cell (by simp)
          have c12 : w1.cell? ⟨w.heap.size, 12, none⟩ = some (.slice xq14 xq15 xq16) := x1.cell (by simp)
          have X := x1.box
          clear x1
          cases Bn
          · go_wp2_with fail
            go_ret
            exact ⟨by go_light; simp [EQ.out], X⟩
          · go_wp2_with fail
            refine (XC.out _ (HE.out.to X)).mono ?_; rintro e2 w2 ⟨rfl, x2⟩
            replace c10 := x2.cell c10
            replace c11 := x2.cell c11
            replace c12 := x2.cell c12
            clear c6 c7 c8 c9
            replace X := X.trans x2
            clear x2
            cases Be
            · go_wp2_with fail
              go_ret
              exact ⟨by go_light; simp [EQ.out], X⟩
            · cases Bl
              · go_wp2_with fail
                go_ret
                exact ⟨by go_light; simp [EQ.out], X⟩
              · cases Bh
                · go_wp2_with fail
                  go_ret
                  exact ⟨by go_light; simp [EQ.out], X⟩
                · cases Bk
                  · go_wp2_with fail
                    go_ret
                    exact ⟨by go_light; simp [EQ.out], X⟩
                  · go_wp2_with fail
                    go_ret
                    exact ⟨by go_light; simp [EQ.out], X⟩
      · go_wp2_with fail
        refine (TC.out _).mono ?_; rintro e3 w3 ⟨rfl, x3⟩
        have c1 : w3.cell? ⟨w.heap.size, 1, none⟩ = some (.string xq1) := x3.cell (by simp)
        have c6 : w3.cell? ⟨w.heap.size, 6, none⟩ = some (.int .i64 xq6) := x3.cell (by simp)
        have c7 : w3.cell? ⟨w.heap.size, 7, none⟩ = some (.int .u64 (xq7 : Int)) := x3.cell (by simp)
        have c8 : w3.cell? ⟨w.heap.size, 8, none⟩ = some (.string xq8) := x3.cell (by simp)
        have c9 : w3.cell? ⟨w.heap.size, 9, none⟩ = some (.slice xq9 xq10 xq11) := x3.cell (by simp)
        have c10 : w3.cell? ⟨w.heap.size, 10, none⟩ = some (.int .i64 xq12) := x3.cell (by simp)
        have c11 : w3.cell? ⟨w.heap.size, 11, none⟩ = some (.int .i64 xq13) := x3.cell (by simp)
        have c12 : w3.cell? ⟨w.heap.size, 12, none⟩ = some (.slice xq14 xq15 xq16) := x3.cell (by simp)
        have X := x3.box
        clear x3
        cases Bt
        · go_wp2_with fail
          go_ret
          exact ⟨by go_light; simp [EQ.out], X⟩
        · go_wp2_with fail
          refine (NC.out _).mono ?_; rintro e4 w4 ⟨rfl, x4⟩
          replace c6 := x4.cell c6
          replace c7 := x4.cell c7
          replace c8 := x4.cell c8
          replace c9 := x4.cell c9
          replace c10 := x4.cell c10
          replace c11 := x4.cell c11
          replace c12 := x4.cell c12
          clear c1
          replace X := X.trans x4
          clear x4
          cases Bn
          · go_wp2_with fail
            go_ret
            exact ⟨by go_light; simp [EQ.out], X⟩
          · go_wp2_with fail
            refine (XC.out _ (HE.out.to X)).mono ?_; rintro e5 w5 ⟨rfl, x5⟩
            replace c10 := x5.cell c10
            replace c11 := x5.cell c11
            replace c12 := x5.cell c12
            clear c6 c7 c8 c9
            replace X := X.trans x5
            clear x5
            cases Be
            · go_wp2_with fail
              go_ret
              exact ⟨by go_light; simp [EQ.out], X⟩
            · cases Bl
              · go_wp2_with fail
                go_ret
                exact ⟨by go_light; simp [EQ.out], X⟩
              · cases Bh
                · go_wp2_with fail
                  go_ret
                  exact ⟨by go_light; simp [EQ.out], X⟩
                · cases Bk
                  · go_wp2_with fail
                    go_ret
                    exact ⟨by go_light; simp [EQ.out], X⟩
                  · go_wp2_with fail
                    go_ret
                    exact ⟨by go_light; simp [EQ.out], X⟩
    have t1 : (xq0 == 1) = false := beq_eq_false_iff_ne.2 h1
    by_cases h2 : xq0 = 2
    · subst h2
      go_enter Tryd.func36, Tryd.ntmps36
      cases Bs
      · go_wp2_with fail
        go_ret
        exact ⟨by go_light; simp [EQ.out], by first | exact Ext.refl _ | exact (Ext.refl _).alloc _⟩
      · go_wp2_with fail
        refine (UC.out _).mono ?_; rintro e1 w1 ⟨rfl, x1⟩
        have c6 : w1.cell? ⟨w.heap.size, 6, none⟩ = some (.int .i64 xq6) := x1.cell (by simp)
        have c7 : w1.cell? ⟨w.heap.size, 7, none⟩ = some (.int .u64 (xq7 : Int)) := x1.cell (by simp)
        have c8 : w1.cell? ⟨w.heap.size, 8, none⟩ = some (.string xq8) := x1.cell (by simp)
        have c9 : w1.cell? ⟨w.heap.size, 9, none⟩ = some (.slice xq9 xq10 xq11) := x1.cell (by simp)
        have c10 : w1.cell? ⟨w.heap.size, 10, none⟩ = some (.int .i64 xq12) := x1.cell (by simp)
        have c11 : w1.cell? ⟨w.heap.size, 11, none⟩ = some (.int .i64 xq13) := x1.cell (by simp)
        have c12 : w1.cell? ⟨w.heap.size, 12, none⟩ = some (.slice xq14 xq15 xq16) := x1.cell (by simp)
        have X := x1.box
        clear x1
        cases Bu
        · go_wp2_with fail
          go_ret
          exact ⟨by go_light; simp [EQ.out], X⟩
        · go_wp2_with fail
          refine (XC.out _ (HE.out.to X)).mono ?_; rintro e2 w2 ⟨rfl, x2⟩
          replace c10 := x2.cell c10
          replace c11 := x2.cell c11
          replace c12 := x2.cell c12
          clear c6 c7 c8 c9
          replace X := X.trans x2
          clear x2
          cases Be
          · go_wp2_with fail
            go_ret
            exact ⟨by go_light; simp [EQ.out], X⟩
          · cases Bl
            · go_wp2_with fail
              go_ret
              exact ⟨by go_light; simp [EQ.out], X⟩
            · cases Bh
              · go_wp2_with fail
                go_ret
                exact ⟨by go_light; simp [EQ.out], X⟩
              · cases Bk
                · go_wp2_with fail
                  go_ret
                  exact ⟨by go_light; simp [EQ.out], X⟩
                · go_wp2_with fail
                  go_ret
                  exact ⟨by go_light; simp [EQ.out], X⟩
    have t2 : (xq0 == 2) = false := beq_eq_false_iff_ne.2 h2
    by_cases h3 : xq0 = 3
    · subst h3
      go_enter Tryd.func36, Tryd.ntmps36
      go_wp2_with fail
      refine (NC.out _).mono ?_; rintro e1 w1 ⟨rfl, x1⟩
      have c0 : w1.cell? ⟨w.heap.size, 0, none⟩ = some (.int .i64 3) := x1.cell (by simp)
      have c1 : w1.cell? ⟨w.heap.size, 1, none⟩ = some (.string xq1) := x1.cell (by simp)
      have c2 : w1.cell? ⟨w.heap.size, 2, none⟩ = some (.bool xq2) := x1.cell (by simp)
      have c3 : w1.cell? ⟨w.heap.size, 3, none⟩ = some (.int .i64 xq3) := x1.cell (by simp)
      have c4 : w1.cell? ⟨w.heap.size, 4, none⟩ = some (.int .i64 xq4) := x1.cell (by simp)
      have c5 : w1.cell? ⟨w.heap.size, 5, none⟩ = some (.int .i64 xq5) := x1.cell (by simp)
      have c6 : w1.cell? ⟨w.heap.size, 6, none⟩ = some (.int .i64 xq6) := x1.cell (by simp)
      have c7 : w1.cell? ⟨w.heap.size, 7, none⟩ = some (.int .u64 (xq7 : Int)) := x1.cell (by simp)
      have c8 : w1.cell? ⟨w.heap.size, 8, none⟩ = some (.string xq8) := x1.cell (by simp)
      have c9 : w1.cell? ⟨w.heap.size, 9, none⟩ = some (.slice xq9 xq10 xq11) := x1.cell (by simp)
      have c10 : w1.cell? ⟨w.heap.size, 10, none⟩ = some (.int .i64 xq12) := x1.cell (by simp)
      have c11 : w1.cell? ⟨w.heap.size, 11, none⟩ = some (.int .i64 xq13) := x1.cell (by simp)
      have c12 : w1.cell? ⟨w.heap.size, 12, none⟩ = some (.slice xq14 xq15 xq16) := x1.cell (by simp)
      have X := x1.box
      clear x1
      cases Bn
      · go_wp2_with fail
        go_ret
        exact ⟨by go_light; simp [EQ.out], X⟩
      · go_wp2_with fail
        refine (UC.out _).mono ?_; rintro e2 w2 ⟨rfl, x2⟩
        replace c6 := x2.cell c6
        replace c7 := x2.cell c7
        replace c8 := x2.cell c8
        replace c9 := x2.cell c9
        replace c10 := x2.cell c10
        replace c11 := x2.cell c11
        replace c12 := x2.cell c12
        clear c0 c1 c2 c3 c4 c5
        replace X := X.trans x2
        clear x2
        cases Bu
        · go_wp2_with fail
          go_ret
          exact ⟨by go_light; simp [EQ.out], X⟩
        · go_wp2_with fail
          refine (MC.out _).mono ?_; rintro e3 w3 ⟨rfl, x3⟩
          replace c10 := x3.cell c10
          replace c11 := x3.cell c11
          replace c12 := x3.cell c12
          clear c6 c7 c8 c9
          replace X := X.trans x3
          clear x3
          cases Bm
          · go_wp2_with fail
            go_ret
            exact ⟨by go_light; simp [EQ.out], X⟩
          · go_wp2_with fail
            refine (LC1.out _).mono ?_; rintro e4 w4 ⟨rfl, x4⟩
            replace c11 := x4.cell c11
            replace c12 := x4.cell c12
            clear c10
            replace X := X.trans x4
            clear x4
            cases Bp
            · go_wp2_with fail
              go_ret
              exact ⟨by go_light; simp [EQ.out], X⟩
            · go_wp2_with fail
              refine (LC2.out _).mono ?_; rintro e5 w5 ⟨rfl, x5⟩
              replace c12 := x5.cell c12
              clear c11
              replace X := X.trans x5
              clear x5
              cases Bq
              · go_wp2_with fail
                go_ret
                exact ⟨by go_light; simp [EQ.out], X⟩
              · go_wp2_with fail
                refine (EV.out _ (HL.out.to X)).mono ?_; rintro e6 w6 ⟨rfl, x6⟩
                clear c12
                replace X := X.trans x6
                clear x6
                cases Bb
                · go_wp2_with fail
                  go_ret
                  exact ⟨by go_light; simp [EQ.out], X⟩
                · go_wp2_with fail
                  go_ret
                  exact ⟨by go_light; simp [EQ.out], X⟩
    have t3 : (xq0 == 3) = false := beq_eq_false_iff_ne.2 h3
    have ER : R = false := by rw [EQ.out, if_neg h1, if_neg h2, if_neg h3]
    rw [ER]
    clear h1 h2 h3 EQ ER
    go_enter Tryd.func36, Tryd.ntmps36
    go_wp2_with fail
    go_ret
    exact ⟨rfl, by first | exact Ext.refl _ | exact (Ext.refl _).alloc _⟩
theorem isStmt_c (x : S) (w : World) (h : InS w x) : Calls Tryd.prog 36 #[x.v] w fun r w' => r = .returned (.bool (okS x)) ∧ Ext w w' := isStmt_n _ x (Nat.lt_succ_self _) w h
set_option maxRecDepth 100000 in
set_option maxHeartbeats 8000000 in
theorem isFunc_c (x : F) (w : World) (hx : InF w x) : Calls Tryd.prog 32 #[x.v] w fun r w' => r = .returned (.bool (okF x)) ∧ Ext w w' := by
  have EV := fun w' h => everyS_c okS x.body x.body.length rfl x.ba x.bc w' h (fun i u _ w2 h2 => isStmt_c u w2 h2)
  have EP := fun w' h => everyP_c okP x.params x.params.length rfl x.pa x.pc w' h (fun i u _ w2 _ => isParam_c u w2)
  have NC := fun w' => IsName_c x.name w'
  have TC := fun w' => isType_c x.t.k x.t.b x.t.n w'
  have XC := fun w' h => isExpr_c x.e w' h
  have EQ : okF x = (nameOk x.name && (x.params.all okP && (tyOk x.t.k x.t.b x.t.n && (x.body.all okS && okE x.e)))) := rfl
  have HP := hx.ps
  have HL := hx.body
  have HE := Lib.hid hx.e
  obtain ⟨R, hR⟩ : ∃ R, R = okF x := ⟨_, rfl⟩
  rw [← hR] at EQ ⊢
  unfold F.v
  unfold E.v at XC
  obtain ⟨Bn, hBn⟩ : ∃ q, q = nameOk x.name := ⟨_, rfl⟩
  obtain ⟨Bp, hBp⟩ : ∃ q, q = x.params.all okP := ⟨_, rfl⟩
  obtain ⟨Bt, hBt⟩ : ∃ q, q = tyOk x.t.k x.t.b x.t.n := ⟨_, rfl⟩
  obtain ⟨Bb, hBb⟩ : ∃ q, q = x.body.all okS := ⟨_, rfl⟩
  obtain ⟨Be, hBe⟩ : ∃ q, q = okE x.e := ⟨_, rfl⟩
  simp only [← hBn, ← hBp, ← hBt, ← hBb, ← hBe] at EQ NC TC XC EV EP
  clear hBn hBp hBt hBb hBe
  clear hR hx
  obtain ⟨xq0, hxq0⟩ : ∃ q, q = x.name := ⟨_, rfl⟩
  obtain ⟨xq1, hxq1⟩ : ∃ q, q = x.pa := ⟨_, rfl⟩
  obtain ⟨xq2, hxq2⟩ : ∃ q, q = x.params.length := ⟨_, rfl⟩
  obtain ⟨xq3, hxq3⟩ : ∃ q, q = x.pc := ⟨_, rfl⟩
  obtain ⟨xq4, hxq4⟩ : ∃ q, q = x.t.k := ⟨_, rfl⟩
  obtain ⟨xq5, hxq5⟩ : ∃ q, q = x.t.b := ⟨_, rfl⟩
  obtain ⟨xq6, hxq6⟩ : ∃ q, q = x.t.n := ⟨_, rfl⟩
  obtain ⟨xq7, hxq7⟩ : ∃ q, q = x.ba := ⟨_, rfl⟩
  obtain ⟨xq8, hxq8⟩ : ∃ q, q = x.body.length := ⟨_, rfl⟩
  obtain ⟨xq9, hxq9⟩ : ∃ q, q = x.bc := ⟨_, rfl⟩
  obtain ⟨xq10, hxq10⟩ : ∃ q, q = x.e.op := ⟨_, rfl⟩
  obtain ⟨xq11, hxq11⟩ : ∃ q, q = x.e.val := ⟨_, rfl⟩
  obtain ⟨xq12, hxq12⟩ : ∃ q, q = x.e.name := ⟨_, rfl⟩
  obtain ⟨xq13, hxq13⟩ : ∃ q, q = x.e.a := ⟨_, rfl⟩
  obtain ⟨xq14, hxq14⟩ : ∃ q, q = x.e.args.length := ⟨_, rfl⟩
  obtain ⟨xq15, hxq15⟩ : ∃ q, q = x.e.cap := ⟨_, rfl⟩
  simp only [← hxq0, ← hxq1, ← hxq2, ← hxq3, ← hxq4, ← hxq5, ← hxq6, ← hxq7, ← hxq8, ← hxq9, ← hxq10, ← hxq11, ← hxq12, ← hxq13, ← hxq14, ← hxq15] at NC TC XC EV EP HP HL ⊢
  clear hxq0 hxq1 hxq2 hxq3 hxq4 hxq5 hxq6 hxq7 hxq8 hxq9 hxq10 hxq11 hxq12 hxq13 hxq14 hxq15
  replace EQ := Lib.hid EQ
  replace EV := Lib.hid EV
  replace EP := Lib.hid EP
  replace NC := Lib.hid NC
  replace TC := Lib.hid TC
  replace XC := Lib.hid XC
  replace HL := Lib.hid HL
  replace HP := Lib.hid HP
  go_enter Tryd.func32, Tryd.ntmps32
  go_wp2_with fail
  refine (NC.out _).mono ?_; rintro e1 w1 ⟨rfl, x1⟩
  have c1 : w1.cell? ⟨w.heap.size, 1, none⟩ = some (.slice xq1 xq2 xq3) := x1.cell (by simp)
  have c2 : w1.cell? ⟨w.heap.size, 2, none⟩ = some (.int .i64 xq4) := x1.cell (by simp)
  have c3 : w1.cell? ⟨w.heap.size, 3, none⟩ = some (.int .i64 xq5) := x1.cell (by simp)
  have c4 : w1.cell? ⟨w.heap.size, 4, none⟩ = some (.int .i64 xq6) := x1.cell (by simp)
  have c5 : w1.cell? ⟨w.heap.size, 5, none⟩ = some (.slice xq7 xq8 xq9) := x1.cell (by simp)
  have c6 : w1.cell? ⟨w.heap.size, 6, none⟩ = some (.int .i64 xq10) := x1.cell (by simp)
  have c7 : w1.cell? ⟨w.heap.size, 7, none⟩ = some (.int .u64 (xq11 : Int)) := x1.cell (by simp)
  have c8 : w1.cell? ⟨w.heap.size, 8, none⟩ = some (.string xq12) := x1.cell (by simp)
  have c9 : w1.cell? ⟨w.heap.size, 9, none⟩ = some (.slice xq13 xq14 xq15) := x1.cell (by simp)
  have X := x1.box
  clear x1
  cases Bn
  · go_wp2_with fail
    go_ret
    exact ⟨by go_light; simp [EQ.out], X⟩
  · go_wp2_with fail
    refine (EP.out _ (HP.out.to X)).mono ?_; rintro e2 w2 ⟨rfl, x2⟩
    replace c2 := x2.cell c2
    replace c3 := x2.cell c3
    replace c4 := x2.cell c4
    replace c5 := x2.cell c5
    replace c6 := x2.cell c6
    replace c7 := x2.cell c7
    replace c8 := x2.cell c8
    replace c9 := x2.cell c9
    clear c1
    replace X := X.trans x2
    clear x2
    cases Bp
    · go_wp2_with fail
      go_ret
      exact ⟨by go_light; simp [EQ.out], X⟩
    · go_wp2_with fail
      refine (TC.out _).mono ?_; rintro e3 w3 ⟨rfl, x3⟩
      replace c5 := x3.cell c5
      replace c6 := x3.cell c6
      replace c7 := x3.cell c7
      replace c8 := x3.cell c8
      replace c9 := x3.cell c9
      clear c2 c3 c4
      replace X := X.trans x3
      clear x3
      cases Bt
      · go_wp2_with fail
        go_ret
        exact ⟨by go_light; simp [EQ.out], X⟩
      · go_wp2_with fail
        refine (EV.out _ (HL.out.to X)).mono ?_; rintro e4 w4 ⟨rfl, x4⟩
        replace c6 := x4.cell c6
        replace c7 := x4.cell c7
        replace c8 := x4.cell c8
        replace c9 := x4.cell c9
        clear c5
        replace X := X.trans x4
        clear x4
        cases Bb
        · go_wp2_with fail
          go_ret
          exact ⟨by go_light; simp [EQ.out], X⟩
        · go_wp2_with fail
          refine (XC.out _ (HE.out.to X)).mono ?_; rintro e5 w5 ⟨rfl, x5⟩
          clear c6 c7 c8 c9
          replace X := X.trans x5
          clear x5
          cases Be
          · go_wp2_with fail
            go_ret
            exact ⟨by go_light; simp [EQ.out], X⟩
          · go_wp2_with fail
            go_ret
            exact ⟨by go_light; simp [EQ.out], X⟩
end Go.Proofs.YtcheigpejbmaoaaDoor
