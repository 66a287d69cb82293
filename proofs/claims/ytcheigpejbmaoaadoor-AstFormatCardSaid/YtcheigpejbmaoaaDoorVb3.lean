/- Well-formed statements: the document. Printed by gen/val6.py. -/
import Derived.Test.YtcheigpejbmaoaaDoorVb2
import Derived.Test.YtcheigpejbmaoaaDoorAx5
namespace Go.Proofs.YtcheigpejbmaoaaDoor
open Go.RowKit
def zE : E := .mk 0 0 ⟨#[]⟩ none 0 []
theorem zE_in (w : World) : InE w zE := InE.eq.2 ⟨⟨by decide, by decide, by decide, by decide, by decide, by decide⟩, by show InEs w none 0 []; unfold InEs; trivial⟩
theorem zE_eq (x : E) : eqE x zE = emE x := by
  rw [eqE_eq]
  unfold emE
  show ((x.op == 0) && decide (x.val = 0) && strEq x.name ⟨#[]⟩ && eqL eqE x.args []) = _
  have h1 : strEq x.name ⟨#[]⟩ = decide (x.name.size = 0) := by
    unfold strEq
    by_cases h : x.name.size = 0
    · rw [decide_eq_true h, decide_eq_true]
      rw [← Lib.mk_data x.name]
      rw [Lib.size_eq] at h
      rw [List.length_eq_zero_iff.1 h]
    · rw [decide_eq_false h, decide_eq_false]
      intro e; rw [e] at h; exact h rfl
  have h2 : eqL eqE x.args [] = decide (x.args.length = 0) := by
    cases x.args with
    | nil => rfl
    | cons y l => rw [eqL_cons_nil]; rfl
  rw [h1, h2, beqD, Bool.and_assoc, Bool.and_assoc]
set_option maxRecDepth 100000 in
theorem none_c (x : E) (w : World) (hx : InE w x) : Calls Tryd.prog 90 #[x.v] w fun r w' => r = .returned (.bool (emE x)) ∧ Ext w w' := by
  have SC := fun w' h => SameExpr_c x zE w' h (zE_in w')
  rw [zE_eq] at SC
  have HX := Lib.hid hx
  unfold E.v at *
  clear hx
  obtain ⟨xq0, hxq0⟩ : ∃ q, q = x.op := ⟨_, rfl⟩
  obtain ⟨xq1, hxq1⟩ : ∃ q, q = x.val := ⟨_, rfl⟩
  obtain ⟨xq2, hxq2⟩ : ∃ q, q = x.name := ⟨_, rfl⟩
  obtain ⟨xq3, hxq3⟩ : ∃ q, q = x.a := ⟨_, rfl⟩
  obtain ⟨xq4, hxq4⟩ : ∃ q, q = x.args.length := ⟨_, rfl⟩
  obtain ⟨xq5, hxq5⟩ : ∃ q, q = x.cap := ⟨_, rfl⟩
  simp only [← hxq0, ← hxq1, ← hxq2, ← hxq3, ← hxq4, ← hxq5] at SC ⊢
  clear hxq0 hxq1 hxq2 hxq3 hxq4 hxq5
  replace SC := Lib.hid SC
  go_enter Tryd.func90, Tryd.ntmps90
  go_wp2_with fail
  refine (SC.out _ (HX.out.to ((Ext.refl _).alloc _))).mono ?_; rintro e1 w1 ⟨rfl, x1⟩
  have X := x1.box
  clear x1
  go_wp2_with fail
  go_ret
  exact ⟨rfl, X⟩
set_option maxRecDepth 100000 in
set_option maxHeartbeats 16000000 in
theorem RStmt_of (x : S) (hS : ∀ w', InB w' x.a x.body → Calls Tryd.prog 41 #[.slice x.a x.body.length x.cap] w' fun r w2 => r = .returned (.bool (x.body.all okS)) ∧ Ext w' w2) (w : World) (hx : InS w x) : Calls Tryd.prog 70 #[x.v] w fun r w' => r = .returned (.bool (okS x)) ∧ Ext w w' := by
  have SS := hS
  have NC := fun w' => RName_c x.name w'
  have TC := fun w' => RType_c x.t.k x.t.b x.t.n w'
  have XC := fun w' h => RExpr_c x.e w' h
  have MC := fun w' h => none_c x.e w' h
  have LC1 := fun w' => RSmall_c x.lo w'
  have LC2 := fun w' => RSmall_c x.hi w'
  have TE := fun W => run_eqlT W x.t ⟨0, 0, 0⟩
  have EQ := okS_eq x
  have tl := beqD x.lo 0
  have th := beqD x.hi 0
  have tk := beqN x.body.length
  have ts := toL_empty x.name
  have HL := hx.l
  have HE := Lib.hid hx.e
  have hcap : x.body.length ≤ 9223372036854775807 := Nat.le_trans hx.l.2 (by decide)
  obtain ⟨R, hR⟩ : ∃ R, R = okS x := ⟨_, rfl⟩
  rw [← hR] at EQ ⊢
  rw [tyZ] at TE
  unfold Ty.v at TE
  unfold S.v
  unfold E.v at XC MC
  obtain ⟨Bn, hBn⟩ : ∃ q, q = nameOk x.name := ⟨_, rfl⟩
  obtain ⟨Bt, hBt⟩ : ∃ q, q = tyOk x.t.k x.t.b x.t.n := ⟨_, rfl⟩
  obtain ⟨Bz, hBz⟩ : ∃ q, q = eqT x.t ⟨0, 0, 0⟩ := ⟨_, rfl⟩
  obtain ⟨Be, hBe⟩ : ∃ q, q = okE x.e := ⟨_, rfl⟩
  obtain ⟨Bm, hBm⟩ : ∃ q, q = emE x.e := ⟨_, rfl⟩
  obtain ⟨Bs, hBs⟩ : ∃ q, q = decide (x.name.size = 0) := ⟨_, rfl⟩
  obtain ⟨Bl, hBl⟩ : ∃ q, q = decide (x.lo = 0) := ⟨_, rfl⟩
  obtain ⟨Bh, hBh⟩ : ∃ q, q = decide (x.hi = 0) := ⟨_, rfl⟩
  obtain ⟨Bk, hBk⟩ : ∃ q, q = decide (x.body.length = 0) := ⟨_, rfl⟩
  obtain ⟨Bp, hBp⟩ : ∃ q, q = lpN x.lo := ⟨_, rfl⟩
  obtain ⟨Bq, hBq⟩ : ∃ q, q = lpN x.hi := ⟨_, rfl⟩
  obtain ⟨Bb, hBb⟩ : ∃ q, q = x.body.all okS := ⟨_, rfl⟩
  simp only [← hBn, ← hBt, ← hBz, ← hBe, ← hBm, ← hBs, ← hBl, ← hBh, ← hBk, ← hBp, ← hBq, ← hBb] at EQ NC TC XC MC LC1 LC2 SS TE tl th tk ts
  clear hBn hBt hBz hBe hBm hBs hBl hBh hBk hBp hBq hBb
  clear hR hx hS
  obtain ⟨xq0, hxq0⟩ : ∃ q, q = x.kind := ⟨_, rfl⟩
  obtain ⟨xq1, hxq1⟩ : ∃ q, q = x.name := ⟨_, rfl⟩
  obtain ⟨xq2, hxq2⟩ : ∃ q, q = x.typed := ⟨_, rfl⟩
  obtain ⟨xq3, hxq3⟩ : ∃ q, q = x.t.k := ⟨_, rfl⟩
  obtain ⟨xq4, hxq4⟩ : ∃ q, q = x.t.b := ⟨_, rfl⟩
  obtain ⟨xq5, hxq5⟩ : ∃ q, q = x.t.n := ⟨_, rfl⟩
  obtain ⟨xq6, hxq6⟩ : ∃ q, q = x.e.op := ⟨_, rfl⟩
  obtain ⟨xq7, hxq7⟩ : ∃ q, q = x.e.val := ⟨_, rfl⟩
  obtain ⟨xq8, hxq8⟩ : ∃ q, q = x.e.name := ⟨_, rfl⟩
  obtain ⟨xq9, hxq9⟩ : ∃ q, q = x.e.a := ⟨_, rfl⟩
  obtain ⟨xq10, hxq10⟩ : ∃ q, q = x.e.args.length := ⟨_, rfl⟩
  obtain ⟨xq11, hxq11⟩ : ∃ q, q = x.e.cap := ⟨_, rfl⟩
  obtain ⟨xq12, hxq12⟩ : ∃ q, q = x.lo := ⟨_, rfl⟩
  obtain ⟨xq13, hxq13⟩ : ∃ q, q = x.hi := ⟨_, rfl⟩
  obtain ⟨xq14, hxq14⟩ : ∃ q, q = x.a := ⟨_, rfl⟩
  obtain ⟨xq15, hxq15⟩ : ∃ q, q = x.body.length := ⟨_, rfl⟩
  obtain ⟨xq16, hxq16⟩ : ∃ q, q = x.cap := ⟨_, rfl⟩
  simp only [← hxq0, ← hxq1, ← hxq2, ← hxq3, ← hxq4, ← hxq5, ← hxq6, ← hxq7, ← hxq8, ← hxq9, ← hxq10, ← hxq11, ← hxq12, ← hxq13, ← hxq14, ← hxq15, ← hxq16] at EQ NC TC XC MC LC1 LC2 SS TE tl th tk ts HL ⊢ hcap
  clear hxq0 hxq1 hxq2 hxq3 hxq4 hxq5 hxq6 hxq7 hxq8 hxq9 hxq10 hxq11 hxq12 hxq13 hxq14 hxq15 hxq16
  replace EQ := Lib.hid EQ
  replace SS := Lib.hid SS
  replace NC := Lib.hid NC
  replace TC := Lib.hid TC
  replace XC := Lib.hid XC
  replace MC := Lib.hid MC
  replace LC1 := Lib.hid LC1
  replace LC2 := Lib.hid LC2
  replace HL := Lib.hid HL
  by_cases h1 : xq0 = 1
  · subst h1
    go_enter Tryd.func70, Tryd.ntmps70
    go_wp2_with fail
    refine (NC.out _).mono ?_; rintro e1 w1 ⟨rfl, x1⟩
    have c2 : w1.cell? ⟨w.heap.size, 2, none⟩ = some (.bool xq2) := x1.cell (by simp)
    have c3 : w1.cell? ⟨w.heap.size, 3, none⟩ = some (.int .i64 xq3) := x1.cell (by simp)
    have c4 : w1.cell? ⟨w.heap.size, 4, none⟩ = some (.int .i64 xq4) := x1.cell (by simp)
    have c5 : w1.cell? ⟨w.heap.size, 5, none⟩ = some (.int .i64 xq5) := x1.cell (by simp)
    have c6 : w1.cell? ⟨w.heap.size, 6, none⟩ = some (.int .i64 xq6) := x1.cell (by simp)
    have c7 : w1.cell? ⟨w.heap.size, 7, none⟩ = some (.int .u64 (xq7 : Int)) := x1.cell (by simp)
    have c8 : w1.cell? ⟨w.heap.size, 8, none⟩ = some (.string xq8) := x1.cell (by simp)
    have c9 : w1.cell? ⟨w.heap.size, 9, none⟩ = some (.slice xq9 xq10 xq11) := x1.cell (by simp)
    have c10 : w1.cell? ⟨w.heap.size, 10, none⟩ = some (.int .i64 xq12) := x1.cell (by simp)
    have c11 : w1.cell? ⟨w.heap.size, 11, none⟩ = some (.int .i64 xq13) := x1.cell (by simp)
    have c12 : w1.cell? ⟨w.heap.size, 12, none⟩ = some (.slice xq14 xq15 xq16) := x1.cell (by simp)
    have X := x1.box
    clear x1
    cases Bn
    · go_wp2_with fail
      go_ret
      exact ⟨by go_light; simp [EQ.out], X⟩
    · go_wp2_with fail
      refine (XC.out _ (HE.out.to X)).mono ?_; rintro e2 w2 ⟨rfl, x2⟩
      replace c2 := x2.cell c2
      replace c3 := x2.cell c3
      replace c4 := x2.cell c4
      replace c5 := x2.cell c5
      replace c10 := x2.cell c10
      replace c11 := x2.cell c11
      replace c12 := x2.cell c12
      clear c6 c7 c8 c9
      replace X := X.trans x2
      clear x2
      cases Be
      · go_wp2_with fail
        go_ret
        exact ⟨by go_light; simp [EQ.out], X⟩
      · cases xq2
        · cases Bz
          · go_wp2_with fail
            go_ret
            exact ⟨by go_light; simp [EQ.out], X⟩
          · cases Bl
            · go_wp2_with fail
              go_ret
              exact ⟨by go_light; simp [EQ.out], X⟩
            · cases Bh
              · go_wp2_with fail
                go_ret
                exact ⟨by go_light; simp [EQ.out], X⟩
              · cases Bk
                · go_wp2_with fail
                  go_ret
                  exact ⟨by go_light; simp [EQ.out], X⟩
                · go_wp2_with fail
                  go_ret
                  exact ⟨by go_light; simp [EQ.out], X⟩
        · go_wp2_with fail
          refine (TC.out _).mono ?_; rintro e3 w3 ⟨rfl, x3⟩
          replace c2 := x3.cell c2
          replace c10 := x3.cell c10
          replace c11 := x3.cell c11
          replace c12 := x3.cell c12
          clear c3 c4 c5
          replace X := X.trans x3
          clear x3
          cases Bt
          · go_wp2_with fail
            go_ret
            exact ⟨by go_light; simp [EQ.out], X⟩
          · cases Bl
            · go_wp2_with fail
              go_ret
              exact ⟨by go_light; simp [EQ.out], X⟩
            · cases Bh
              · go_wp2_with fail
                go_ret
                exact ⟨by go_light; simp [EQ.out], X⟩
              · cases Bk
                · go_wp2_with fail
                  go_ret
                  exact ⟨by go_light; simp [EQ.out], X⟩
                · go_wp2_with fail
                  go_ret
                  exact ⟨by go_light; simp [EQ.out], X⟩
  have t1 : (xq0 == 1) = false := beq_eq_false_iff_ne.2 h1
  by_cases h2 : xq0 = 2
  · subst h2
    go_enter Tryd.func70, Tryd.ntmps70
    cases Bs
    · go_wp2_with fail
      go_ret
      exact ⟨by go_light; simp [EQ.out], by first | exact Ext.refl _ | exact (Ext.refl _).alloc _⟩
    · go_wp2_with fail
      refine (XC.out _ (HE.out.to ((Ext.refl _).alloc _))).mono ?_; rintro e1 w1 ⟨rfl, x1⟩
      have c2 : w1.cell? ⟨w.heap.size, 2, none⟩ = some (.bool xq2) := x1.cell (by simp)
      have c3 : w1.cell? ⟨w.heap.size, 3, none⟩ = some (.int .i64 xq3) := x1.cell (by simp)
      have c4 : w1.cell? ⟨w.heap.size, 4, none⟩ = some (.int .i64 xq4) := x1.cell (by simp)
      have c5 : w1.cell? ⟨w.heap.size, 5, none⟩ = some (.int .i64 xq5) := x1.cell (by simp)
      have c10 : w1.cell? ⟨w.heap.size, 10, none⟩ = some (.int .i64 xq12) := x1.cell (by simp)
      have c11 : w1.cell? ⟨w.heap.size, 11, none⟩ = some (.int .i64 xq13) := x1.cell (by simp)
      have c12 : w1.cell? ⟨w.heap.size, 12, none⟩ = some (.slice xq14 xq15 xq16) := x1.cell (by simp)
      have X := x1.box
      clear x1
      cases Be
      · go_wp2_with fail
        go_ret
        exact ⟨by go_light; simp [EQ.out], X⟩
      · cases xq2
        · cases Bz
          · go_wp2_with fail
            go_ret
            exact ⟨by go_light; simp [EQ.out], X⟩
          · cases Bl
            · go_wp2_with fail
              go_ret
              exact ⟨by go_light; simp [EQ.out], X⟩
            · cases Bh
              · go_wp2_with fail
                go_ret
                exact ⟨by go_light; simp [EQ.out], X⟩
              · cases Bk
                · go_wp2_with fail
                  go_ret
                  exact ⟨by go_light; simp [EQ.out], X⟩
                · go_wp2_with fail
                  go_ret
                  exact ⟨by go_light; simp [EQ.out], X⟩
        · go_wp2_with fail
          go_ret
          exact ⟨by go_light; simp [EQ.out], X⟩
  have t2 : (xq0 == 2) = false := beq_eq_false_iff_ne.2 h2
  by_cases h3 : xq0 = 3
  · subst h3
    go_enter Tryd.func70, Tryd.ntmps70
    go_wp2_with fail
    refine (NC.out _).mono ?_; rintro e1 w1 ⟨rfl, x1⟩
    have c2 : w1.cell? ⟨w.heap.size, 2, none⟩ = some (.bool xq2) := x1.cell (by simp)
    have c3 : w1.cell? ⟨w.heap.size, 3, none⟩ = some (.int .i64 xq3) := x1.cell (by simp)
    have c4 : w1.cell? ⟨w.heap.size, 4, none⟩ = some (.int .i64 xq4) := x1.cell (by simp)
    have c5 : w1.cell? ⟨w.heap.size, 5, none⟩ = some (.int .i64 xq5) := x1.cell (by simp)
    have c6 : w1.cell? ⟨w.heap.size, 6, none⟩ = some (.int .i64 xq6) := x1.cell (by simp)
    have c7 : w1.cell? ⟨w.heap.size, 7, none⟩ = some (.int .u64 (xq7 : Int)) := x1.cell (by simp)
    have c8 : w1.cell? ⟨w.heap.size, 8, none⟩ = some (.string xq8) := x1.cell (by simp)
    have c9 : w1.cell? ⟨w.heap.size, 9, none⟩ = some (.slice xq9 xq10 xq11) := x1.cell (by simp)
    have c10 : w1.cell? ⟨w.heap.size, 10, none⟩ = some (.int .i64 xq12) := x1.cell (by simp)
    have c11 : w1.cell? ⟨w.heap.size, 11, none⟩ = some (.int .i64 xq13) := x1.cell (by simp)
    have c12 : w1.cell? ⟨w.heap.size, 12, none⟩ = some (.slice xq14 xq15 xq16) := x1.cell (by simp)
    have X := x1.box
    clear x1
    cases Bn
    · go_wp2_with fail
      go_ret
      exact ⟨by go_light; simp [EQ.out], X⟩
    · go_wp2_with fail
      refine (MC.out _ (HE.out.to X)).mono ?_; rintro e2 w2 ⟨rfl, x2⟩
      replace c2 := x2.cell c2
      replace c3 := x2.cell c3
      replace c4 := x2.cell c4
      replace c5 := x2.cell c5
      replace c10 := x2.cell c10
      replace c11 := x2.cell c11
      replace c12 := x2.cell c12
      clear c6 c7 c8 c9
      replace X := X.trans x2
      clear x2
      cases Bm
      · go_wp2_with fail
        go_ret
        exact ⟨by go_light; simp [EQ.out], X⟩
      · cases xq2
        · cases Bz
          · go_wp2_with fail
            go_ret
            exact ⟨by go_light; simp [EQ.out], X⟩
          · go_wp2_with fail
            refine (LC1.out _).mono ?_; rintro e3 w3 ⟨rfl, x3⟩
            replace c11 := x3.cell c11
            replace c12 := x3.cell c12
            clear c2 c3 c4 c5 c10
            replace X := X.trans x3
            clear x3
            cases Bp
            · go_wp2_with fail
              go_ret
              exact ⟨by go_light; simp [EQ.out], X⟩
            · go_wp2_with fail
              refine (LC2.out _).mono ?_; rintro e4 w4 ⟨rfl, x4⟩
              replace c12 := x4.cell c12
              clear c11
              replace X := X.trans x4
              clear x4
              cases Bq
              · go_wp2_with fail
                go_ret
                exact ⟨by go_light; simp [EQ.out], X⟩
              · go_wp2_with fail
                refine (SS.out _ (HL.out.to X)).mono ?_; rintro e5 w5 ⟨rfl, x5⟩
                clear c12
                replace X := X.trans x5
                clear x5
                cases Bb
                · go_wp2_with fail
                  go_ret
                  exact ⟨by go_light; simp [EQ.out], X⟩
                · go_wp2_with fail
                  go_ret
                  exact ⟨by go_light; simp [EQ.out], X⟩
        · go_wp2_with fail
          go_ret
          exact ⟨by go_light; simp [EQ.out], X⟩
  have t3 : (xq0 == 3) = false := beq_eq_false_iff_ne.2 h3
  have ER : R = false := by rw [EQ.out, if_neg h1, if_neg h2, if_neg h3]
  rw [ER]
  clear h1 h2 h3 EQ ER
  go_enter Tryd.func70, Tryd.ntmps70
  go_wp2_with fail
  go_ret
  exact ⟨rfl, by first | exact Ext.refl _ | exact (Ext.refl _).alloc _⟩
set_option maxRecDepth 100000 in
set_option maxHeartbeats 4000000 in
theorem RStmts_n : ∀ (m : Nat) (l : List S), S.szs l < m → ∀ (n : Nat) (_ : l.length = n) (a : Option Addr) (c : Nat) (w : World), InB w a l → Calls Tryd.prog 41 #[.slice a n c] w fun r w' => r = .returned (.bool (l.all okS)) ∧ Ext w w' := by
  intro m
  induction m with
  | zero => intro x h; exact absurd h (by omega)
  | succ m ih =>
    intro l hm n hn a c w hl
    have HP := Lib.hid (fun (i : Nat) x (hx : l[i]? = some x) w' (h : InS w' x) => RStmt_of x (fun w2 h2 => ih x.body (by have := S.szs_get hx; have := S.sz_eq x; omega) x.body.length rfl x.a x.cap w2 h2) w' h)
    have HL := Lib.hid hl
    have hcap : n ≤ 9223372036854775807 := by rw [← hn]; exact Nat.le_trans hl.2 (by decide)
    have HN := Lib.hid hn
    clear ih hl hn hm
    go_enter Tryd.func41, Tryd.ntmps41
    go_wp2_with fail
    go_loopw [3] (EvRel okS l w) (fun s _ => n - (intOf s).toNat)
    case atStart => exact ⟨0, rfl, Nat.zero_le _, fun k x hk => absurd hk (by omega), Ext.refl _⟩
    case round =>
      obtain ⟨j, rfl, hj, hall, hext⟩ := hrel
      rw [HN.out] at hj
      have HX := Lib.hid hext
      have HA := Lib.hid hall
      clear hext hall
      by_cases hlt : j < n
      · obtain ⟨x, hxj⟩ := getE (l := l) (i := j) (by rw [HN.out]; exact hlt)
        obtain ⟨⟨b, o, rfl, k0, k1, k2, k3, k4, k5, k6, k7, k8, k9, k10, k11, k12⟩, hin⟩ := (HL.out.to HX.out).at hxj
        have PC := HP.out j x hxj
        unfold S.v at PC
        obtain ⟨B, hB⟩ : ∃ B, B = okS x := ⟨_, rfl⟩
        rw [← hB] at PC
        have HB := Lib.hid hB
        have HXJ := Lib.hid hxj
        clear hxj hB
        obtain ⟨xq0, hxq0⟩ : ∃ q, q = x.kind := ⟨_, rfl⟩
        obtain ⟨xq1, hxq1⟩ : ∃ q, q = x.name := ⟨_, rfl⟩
        obtain ⟨xq2, hxq2⟩ : ∃ q, q = x.typed := ⟨_, rfl⟩
        obtain ⟨xq3, hxq3⟩ : ∃ q, q = x.t.k := ⟨_, rfl⟩
        obtain ⟨xq4, hxq4⟩ : ∃ q, q = x.t.b := ⟨_, rfl⟩
        obtain ⟨xq5, hxq5⟩ : ∃ q, q = x.t.n := ⟨_, rfl⟩
        obtain ⟨xq6, hxq6⟩ : ∃ q, q = x.e.op := ⟨_, rfl⟩
        obtain ⟨xq7, hxq7⟩ : ∃ q, q = x.e.val := ⟨_, rfl⟩
        obtain ⟨xq8, hxq8⟩ : ∃ q, q = x.e.name := ⟨_, rfl⟩
        obtain ⟨xq9, hxq9⟩ : ∃ q, q = x.e.a := ⟨_, rfl⟩
        obtain ⟨xq10, hxq10⟩ : ∃ q, q = x.e.args.length := ⟨_, rfl⟩
        obtain ⟨xq11, hxq11⟩ : ∃ q, q = x.e.cap := ⟨_, rfl⟩
        obtain ⟨xq12, hxq12⟩ : ∃ q, q = x.lo := ⟨_, rfl⟩
        obtain ⟨xq13, hxq13⟩ : ∃ q, q = x.hi := ⟨_, rfl⟩
        obtain ⟨xq14, hxq14⟩ : ∃ q, q = x.a := ⟨_, rfl⟩
        obtain ⟨xq15, hxq15⟩ : ∃ q, q = x.body.length := ⟨_, rfl⟩
        obtain ⟨xq16, hxq16⟩ : ∃ q, q = x.cap := ⟨_, rfl⟩
        simp only [← hxq0, ← hxq1, ← hxq2, ← hxq3, ← hxq4, ← hxq5, ← hxq6, ← hxq7, ← hxq8, ← hxq9, ← hxq10, ← hxq11, ← hxq12, ← hxq13, ← hxq14, ← hxq15, ← hxq16] at k0 k1 k2 k3 k4 k5 k6 k7 k8 k9 k10 k11 k12 PC
        clear hxq0 hxq1 hxq2 hxq3 hxq4 hxq5 hxq6 hxq7 hxq8 hxq9 hxq10 hxq11 hxq12 hxq13 hxq14 hxq15 hxq16
        have HPC := Lib.hid PC
        have HIN := Lib.hid hin
        clear hin PC
        go_wp2_with fail
        refine (HPC.out _ HIN.out).mono ?_; rintro e w2 ⟨rfl, x2⟩
        have X2 := Lib.hid (HX.out.trans x2)
        clear x2 k0 k1 k2 k3 k4 k5 k6 k7 k8 k9 k10 k11 k12
        cases B
        · go_wp2_with fail
          go_ret
          exact ⟨by rw [evNot HXJ.out HB.out.symm]; rfl, X2.out⟩
        · go_wp2_with fail
          go_roundw
          case rel => exact ⟨j + 1, by go_num, by rw [HN.out]; omega, evStep HXJ.out HB.out.symm HA.out, X2.out⟩
          case measure => simp [intOf]; omega
      · obtain rfl : j = n := by omega
        go_wp2_with fail
        go_ret
        exact ⟨by rw [evAll HN.out HA.out]; rfl, HX.out⟩
theorem RStmts_c (l : List S) (n : Nat) (hn : l.length = n) (a : Option Addr) (c : Nat) (w : World) (h : InB w a l) : Calls Tryd.prog 41 #[.slice a n c] w fun r w' => r = .returned (.bool (l.all okS)) ∧ Ext w w' := RStmts_n _ l (Nat.lt_succ_self _) n hn a c w h
end Go.Proofs.YtcheigpejbmaoaaDoor
