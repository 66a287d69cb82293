/- Equality of expressions, statements, functions, programs: the package. Printed by gen/ast5.py. -/
import Derived.Test.YtcheigpejbmaoaaDoorAx3
namespace Go.Proofs.YtcheigpejbmaoaaDoor
open Go.RowKit
mutual
/-- Are two expressions equal? -/
def eqE : E → E → Bool
  | .mk o v n _ _ l, .mk o' v' n' _ _ l' => (o == o') && decide (v = v') && strEq n n' && eqEs l l'
def eqEs : List E → List E → Bool
  | [], [] => true
  | x :: l, y :: m => eqE x y && eqEs l m
  | _, _ => false
end
theorem eqL_nil_cons {T : Type} {p : T → T → Bool} {x : T} {l : List T} : eqL p [] (x :: l) = false := by simp [eqL]
theorem eqL_cons_nil {T : Type} {p : T → T → Bool} {x : T} {l : List T} : eqL p (x :: l) [] = false := by simp [eqL]
theorem eqL_cons {T : Type} {p : T → T → Bool} {x y : T} {l m : List T} : eqL p (x :: l) (y :: m) = (p x y && eqL p l m) := by
  unfold eqL
  simp only [List.length_cons, List.zip_cons_cons, List.all_cons, Nat.add_right_cancel_iff]
  cases p x y <;> cases decide (l.length = m.length) <;> simp
theorem eqEs_eq : ∀ l m, eqEs l m = eqL eqE l m
  | [], [] => rfl
  | [], _ :: _ => by rw [eqL_nil_cons]; rfl
  | _ :: _, [] => by rw [eqL_cons_nil]; rfl
  | x :: l, y :: m => by rw [eqL_cons, ← eqEs_eq l m]; rfl
theorem eqE_eq (x y : E) : eqE x y = ((x.op == y.op) && decide (x.val = y.val) && strEq x.name y.name && eqL eqE x.args y.args) := by
  obtain ⟨o, v, n, a, c, l⟩ := x
  obtain ⟨o', v', n', a', c', l'⟩ := y
  rw [← eqEs_eq]; rfl
set_option maxRecDepth 100000 in
set_option maxHeartbeats 4000000 in
theorem equalExprs_n : ∀ (m : Nat) (x y : E), E.sz x < m → ∀ w, InE w x → InE w y → Calls Tryd.prog 59 #[x.v, y.v] w fun r w' => r = .returned (.bool (eqE x y)) ∧ Ext w w' := by
  intro m
  induction m with
  | zero => intro x y h; exact absurd h (by omega)
  | succ m ih =>
    intro x y hm w hx hy
    have EF := fun w' h h' => EqFE_c eqE x.args y.args x.args.length y.args.length rfl rfl x.a y.a x.cap y.cap w' h h' (fun i u v hu _ w2 h2 h3 => ih u v (by have := E.sz_arg hu; omega) w2 h2 h3)
    have EQ := eqE_eq x y
    have HL := hx.l
    have HL' := hy.l
    have hcap := hx.l.2
    have hcap' := hy.l.2
    obtain ⟨B, hB⟩ : ∃ B, B = eqL eqE x.args y.args := ⟨_, rfl⟩
    obtain ⟨R, hR⟩ : ∃ R, R = eqE x y := ⟨_, rfl⟩
    rw [← hB] at EF EQ
    rw [← hR] at EQ ⊢
    unfold E.v
    clear hB hR hx hy hm ih
    obtain ⟨xq0, hxq0⟩ : ∃ q, q = x.op := ⟨_, rfl⟩
    obtain ⟨xq1, hxq1⟩ : ∃ q, q = x.val := ⟨_, rfl⟩
    obtain ⟨xq2, hxq2⟩ : ∃ q, q = x.name := ⟨_, rfl⟩
    obtain ⟨xq3, hxq3⟩ : ∃ q, q = x.a := ⟨_, rfl⟩
    obtain ⟨xq4, hxq4⟩ : ∃ q, q = x.args.length := ⟨_, rfl⟩
    obtain ⟨xq5, hxq5⟩ : ∃ q, q = x.cap := ⟨_, rfl⟩
    simp only [← hxq0, ← hxq1, ← hxq2, ← hxq3, ← hxq4, ← hxq5] at EF EQ HL hcap ⊢
    clear hxq0 hxq1 hxq2 hxq3 hxq4 hxq5
    obtain ⟨yq0, hyq0⟩ : ∃ q, q = y.op := ⟨_, rfl⟩
    obtain ⟨yq1, hyq1⟩ : ∃ q, q = y.val := ⟨_, rfl⟩
    obtain ⟨yq2, hyq2⟩ : ∃ q, q = y.name := ⟨_, rfl⟩
    obtain ⟨yq3, hyq3⟩ : ∃ q, q = y.a := ⟨_, rfl⟩
    obtain ⟨yq4, hyq4⟩ : ∃ q, q = y.args.length := ⟨_, rfl⟩
    obtain ⟨yq5, hyq5⟩ : ∃ q, q = y.cap := ⟨_, rfl⟩
    simp only [← hyq0, ← hyq1, ← hyq2, ← hyq3, ← hyq4, ← hyq5] at EF EQ HL' hcap' ⊢
    clear hyq0 hyq1 hyq2 hyq3 hyq4 hyq5
    replace EF := Lib.hid EF
    replace EQ := Lib.hid EQ
    replace HL := Lib.hid HL
    replace HL' := Lib.hid HL'
    by_cases e0 : xq0 = yq0
    · subst e0
      by_cases e1 : xq1 = yq1
      · subst e1
        by_cases e2 : xq2 = yq2
        · subst e2
          go_enter Tryd.func59, Tryd.ntmps59
          go_wp2_with fail
          refine (EF.out _ (HL.out.to (((Ext.refl _).alloc _).alloc _)) (HL'.out.to (((Ext.refl _).alloc _).alloc _))).mono ?_; rintro e w2 ⟨rfl, x2⟩
          have X2 := x2.box.box
          clear x2
          go_wp2_with fail
          go_ret
          exact ⟨by go_light; simp [EQ.out, strEq], X2⟩
        · have s2 : strEq xq2 yq2 = false := decide_eq_false e2
          have t2 : (xq2.toList == yq2.toList) = false := by rw [toL_eq]; exact s2
          go_enter Tryd.func59, Tryd.ntmps59
          go_wp2_with fail
          go_ret
          exact ⟨by go_light; simp [EQ.out, *], by first | exact Ext.refl _ | exact ((Ext.refl _).alloc _).alloc _⟩
      · have t1 : ((xq1 : Int) == (yq1 : Int)) = false := beq_eq_false_iff_ne.2 (by omega)
        have d1 : decide (xq1 = yq1) = false := decide_eq_false e1
        go_enter Tryd.func59, Tryd.ntmps59
        go_wp2_with fail
        go_ret
        exact ⟨by go_light; simp [EQ.out, *], by first | exact Ext.refl _ | exact ((Ext.refl _).alloc _).alloc _⟩
    · have t0 : (xq0 == yq0) = false := beq_eq_false_iff_ne.2 e0
      go_enter Tryd.func59, Tryd.ntmps59
      go_wp2_with fail
      go_ret
      exact ⟨by go_light; simp [EQ.out, *], by first | exact Ext.refl _ | exact ((Ext.refl _).alloc _).alloc _⟩
theorem equalExprs_c (x y : E) (w : World) (hx : InE w x) (hy : InE w y) : Calls Tryd.prog 59 #[x.v, y.v] w fun r w' => r = .returned (.bool (eqE x y)) ∧ Ext w w' := equalExprs_n _ x y (Nat.lt_succ_self _) w hx hy
mutual
/-- Are two statements equal? -/
def eqS : S → S → Bool
  | .mk k n ty t e lo hi _ _ l, .mk k' n' ty' t' e' lo' hi' _ _ l' => (k == k') && strEq n n' && (ty == ty') && eqT t t' && (lo == lo') && (hi == hi') && eqE e e' && eqSs l l'
def eqSs : List S → List S → Bool
  | [], [] => true
  | x :: l, y :: m => eqS x y && eqSs l m
  | _, _ => false
end
theorem eqSs_eq : ∀ l m, eqSs l m = eqL eqS l m
  | [], [] => rfl
  | [], _ :: _ => by rw [eqL_nil_cons]; rfl
  | _ :: _, [] => by rw [eqL_cons_nil]; rfl
  | x :: l, y :: m => by rw [eqL_cons, ← eqSs_eq l m]; rfl
theorem eqS_eq (x y : S) : eqS x y = ((x.kind == y.kind) && strEq x.name y.name && (x.typed == y.typed) && eqT x.t y.t && (x.lo == y.lo) && (x.hi == y.hi) && eqE x.e y.e && eqL eqS x.body y.body) := by
  obtain ⟨k, n, ty, t, e, lo, hi, a, c, l⟩ := x
  obtain ⟨k', n', ty', t', e', lo', hi', a', c', l'⟩ := y
  rw [← eqSs_eq]; rfl
set_option maxRecDepth 100000 in
set_option maxHeartbeats 8000000 in
theorem equalStmts_n : ∀ (m : Nat) (x y : S), S.sz x < m → ∀ w, InS w x → InS w y → Calls Tryd.prog 28 #[x.v, y.v] w fun r w' => r = .returned (.bool (eqS x y)) ∧ Ext w w' := by
  intro m
  induction m with
  | zero => intro x y h; exact absurd h (by omega)
  | succ m ih =>
    intro x y hm w hx hy
    have EF := fun w' h h' => EqFS_c eqS x.body y.body x.body.length y.body.length rfl rfl x.a y.a x.cap y.cap w' h h' (fun i u v hu _ w2 h2 h3 => ih u v (by have := S.sz_arg hu; omega) w2 h2 h3)
    have CE := fun w' h h' => equalExprs_c x.e y.e w' h h'
    have TE := fun W => run_eqlT W x.t y.t
    have EQ := eqS_eq x y
    have HL := hx.l
    have HL' := hy.l
    have HE := hx.e
    have HE' := hy.e
    have hcap : x.body.length ≤ 9223372036854775807 := Nat.le_trans hx.l.2 (by decide)
    have hcap' : y.body.length ≤ 9223372036854775807 := Nat.le_trans hy.l.2 (by decide)
    obtain ⟨B3, hB3⟩ : ∃ B, B = eqL eqS x.body y.body := ⟨_, rfl⟩
    obtain ⟨B2, hB2⟩ : ∃ B, B = eqE x.e y.e := ⟨_, rfl⟩
    obtain ⟨B1, hB1⟩ : ∃ B, B = eqT x.t y.t := ⟨_, rfl⟩
    obtain ⟨R, hR⟩ : ∃ R, R = eqS x y := ⟨_, rfl⟩
    rw [← hB3] at EF EQ
    rw [← hB2] at CE EQ
    rw [← hB1] at EQ
    simp only [← hB1] at TE
    rw [← hR] at EQ ⊢
    unfold S.v
    unfold E.v at CE
    unfold Ty.v at TE
    clear hB1 hB2 hB3 hR hx hy hm ih
    obtain ⟨xq0, hxq0⟩ : ∃ q, q = x.kind := ⟨_, rfl⟩
    obtain ⟨xq1, hxq1⟩ : ∃ q, q = x.name := ⟨_, rfl⟩
    obtain ⟨xq2, hxq2⟩ : ∃ q, q = x.typed := ⟨_, rfl⟩
    obtain ⟨xq3, hxq3⟩ : ∃ q, q = x.t.k := ⟨_, rfl⟩
    obtain ⟨xq4, hxq4⟩ : ∃ q, q = x.t.b := ⟨_, rfl⟩
    obtain ⟨xq5, hxq5⟩ : ∃ q, q = x.t.n := ⟨_, rfl⟩
    obtain ⟨xq6, hxq6⟩ : ∃ q, q = x.e.op := ⟨_, rfl⟩
    obtain ⟨xq7, hxq7⟩ : ∃ q, q = x.e.val := ⟨_, rfl⟩
    obtain ⟨xq8, hxq8⟩ : ∃ q, q = x.e.name := ⟨_, rfl⟩
    obtain ⟨xq9, hxq9⟩ : ∃ q, q = x.e.a := ⟨_, rfl⟩
    obtain ⟨xq10, hxq10⟩ : ∃ q, q = x.e.args.length := ⟨_, rfl⟩
    obtain ⟨xq11, hxq11⟩ : ∃ q, q = x.e.cap := ⟨_, rfl⟩
    obtain ⟨xq12, hxq12⟩ : ∃ q, q = x.lo := ⟨_, rfl⟩
    obtain ⟨xq13, hxq13⟩ : ∃ q, q = x.hi := ⟨_, rfl⟩
    obtain ⟨xq14, hxq14⟩ : ∃ q, q = x.a := ⟨_, rfl⟩
    obtain ⟨xq15, hxq15⟩ : ∃ q, q = x.body.length := ⟨_, rfl⟩
    obtain ⟨xq16, hxq16⟩ : ∃ q, q = x.cap := ⟨_, rfl⟩
    simp only [← hxq0, ← hxq1, ← hxq2, ← hxq3, ← hxq4, ← hxq5, ← hxq6, ← hxq7, ← hxq8, ← hxq9, ← hxq10, ← hxq11, ← hxq12, ← hxq13, ← hxq14, ← hxq15, ← hxq16] at EF EQ CE TE HL hcap ⊢
    clear hxq0 hxq1 hxq2 hxq3 hxq4 hxq5 hxq6 hxq7 hxq8 hxq9 hxq10 hxq11 hxq12 hxq13 hxq14 hxq15 hxq16
    obtain ⟨yq0, hyq0⟩ : ∃ q, q = y.kind := ⟨_, rfl⟩
    obtain ⟨yq1, hyq1⟩ : ∃ q, q = y.name := ⟨_, rfl⟩
    obtain ⟨yq2, hyq2⟩ : ∃ q, q = y.typed := ⟨_, rfl⟩
    obtain ⟨yq3, hyq3⟩ : ∃ q, q = y.t.k := ⟨_, rfl⟩
    obtain ⟨yq4, hyq4⟩ : ∃ q, q = y.t.b := ⟨_, rfl⟩
    obtain ⟨yq5, hyq5⟩ : ∃ q, q = y.t.n := ⟨_, rfl⟩
    obtain ⟨yq6, hyq6⟩ : ∃ q, q = y.e.op := ⟨_, rfl⟩
    obtain ⟨yq7, hyq7⟩ : ∃ q, q = y.e.val := ⟨_, rfl⟩
    obtain ⟨yq8, hyq8⟩ : ∃ q, q = y.e.name := ⟨_, rfl⟩
    obtain ⟨yq9, hyq9⟩ : ∃ q, q = y.e.a := ⟨_, rfl⟩
    obtain ⟨yq10, hyq10⟩ : ∃ q, q = y.e.args.length := ⟨_, rfl⟩
    obtain ⟨yq11, hyq11⟩ : ∃ q, q = y.e.cap := ⟨_, rfl⟩
    obtain ⟨yq12, hyq12⟩ : ∃ q, q = y.lo := ⟨_, rfl⟩
    obtain ⟨yq13, hyq13⟩ : ∃ q, q = y.hi := ⟨_, rfl⟩
    obtain ⟨yq14, hyq14⟩ : ∃ q, q = y.a := ⟨_, rfl⟩
    obtain ⟨yq15, hyq15⟩ : ∃ q, q = y.body.length := ⟨_, rfl⟩
    obtain ⟨yq16, hyq16⟩ : ∃ q, q = y.cap := ⟨_, rfl⟩
    simp only [← hyq0, ← hyq1, ← hyq2, ← hyq3, ← hyq4, ← hyq5, ← hyq6, ← hyq7, ← hyq8, ← hyq9, ← hyq10, ← hyq11, ← hyq12, ← hyq13, ← hyq14, ← hyq15, ← hyq16] at EF EQ CE TE HL' hcap' ⊢
    clear hyq0 hyq1 hyq2 hyq3 hyq4 hyq5 hyq6 hyq7 hyq8 hyq9 hyq10 hyq11 hyq12 hyq13 hyq14 hyq15 hyq16
    replace EF := Lib.hid EF
    replace EQ := Lib.hid EQ
    replace CE := Lib.hid CE
    replace HL := Lib.hid HL
    replace HL' := Lib.hid HL'
    replace HE := Lib.hid HE
    replace HE' := Lib.hid HE'
    by_cases e0 : xq0 = yq0
    · subst e0
      by_cases e1 : xq1 = yq1
      · subst e1
        by_cases e2 : xq2 = yq2
        · subst e2
          cases B1
          · go_enter Tryd.func28, Tryd.ntmps28
            go_wp2_with fail
            go_ret
            exact ⟨by go_light; simp [EQ.out, strEq, *], by first | exact Ext.refl _ | exact ((Ext.refl _).alloc _).alloc _⟩
          · by_cases e4 : xq12 = yq12
            · subst e4
              by_cases e5 : xq13 = yq13
              · subst e5
                go_enter Tryd.func28, Tryd.ntmps28
                go_wp2_with fail
                refine (CE.out _ (HE.out.to (((Ext.refl _).alloc _).alloc _)) (HE'.out.to (((Ext.refl _).alloc _).alloc _))).mono ?_; rintro e1 w1 ⟨rfl, x1⟩
                have c12 : w1.cell? ⟨w.heap.size, 12, none⟩ = some (.slice xq14 xq15 xq16) := x1.cell (by simp)
                have d12 : w1.cell? ⟨w.heap.size + 1, 12, none⟩ = some (.slice yq14 yq15 yq16) := x1.cell (by simp)
                have X := x1.box.box
                clear x1
                cases B2
                · go_wp2_with fail
                  go_ret
                  exact ⟨by go_light; simp [EQ.out, strEq, *], X⟩
                · go_wp2_with fail
                  refine (EF.out _ (HL.out.to X) (HL'.out.to X)).mono ?_; rintro e2 w2 ⟨rfl, x2⟩
                  replace X := X.trans x2
                  clear x2
                  go_wp2_with fail
                  go_ret
                  exact ⟨by go_light; simp [EQ.out, strEq, *], X⟩
              · have t5 : (xq13 == yq13) = false := beq_eq_false_iff_ne.2 e5
                go_enter Tryd.func28, Tryd.ntmps28
                go_wp2_with fail
                go_ret
                exact ⟨by go_light; simp [EQ.out, strEq, *], by first | exact Ext.refl _ | exact ((Ext.refl _).alloc _).alloc _⟩
            · have t4 : (xq12 == yq12) = false := beq_eq_false_iff_ne.2 e4
              go_enter Tryd.func28, Tryd.ntmps28
              go_wp2_with fail
              go_ret
              exact ⟨by go_light; simp [EQ.out, strEq, *], by first | exact Ext.refl _ | exact ((Ext.refl _).alloc _).alloc _⟩
        · have t2 : (xq2 == yq2) = false := beq_eq_false_iff_ne.2 e2
          go_enter Tryd.func28, Tryd.ntmps28
          go_wp2_with fail
          go_ret
          exact ⟨by go_light; simp [EQ.out, strEq, *], by first | exact Ext.refl _ | exact ((Ext.refl _).alloc _).alloc _⟩
      · have s1 : strEq xq1 yq1 = false := decide_eq_false e1
        have t1 : (xq1.toList == yq1.toList) = false := by rw [toL_eq]; exact s1
        go_enter Tryd.func28, Tryd.ntmps28
        go_wp2_with fail
        go_ret
        exact ⟨by go_light; simp [EQ.out, strEq, *], by first | exact Ext.refl _ | exact ((Ext.refl _).alloc _).alloc _⟩
    · have t0 : (xq0 == yq0) = false := beq_eq_false_iff_ne.2 e0
      go_enter Tryd.func28, Tryd.ntmps28
      go_wp2_with fail
      go_ret
      exact ⟨by go_light; simp [EQ.out, strEq, *], by first | exact Ext.refl _ | exact ((Ext.refl _).alloc _).alloc _⟩
theorem equalStmts_c (x y : S) (w : World) (hx : InS w x) (hy : InS w y) : Calls Tryd.prog 28 #[x.v, y.v] w fun r w' => r = .returned (.bool (eqS x y)) ∧ Ext w w' := equalStmts_n _ x y (Nat.lt_succ_self _) w hx hy
/-- Are two functions equal? -/
def eqFn (x y : F) : Bool := strEq x.name y.name && eqL eqP x.params y.params && eqT x.t y.t && eqL eqS x.body y.body && eqE x.e y.e
set_option maxRecDepth 100000 in
set_option maxHeartbeats 8000000 in
theorem equalFuncs_c (x y : F) (w : World) (hx : InF w x) (hy : InF w y) : Calls Tryd.prog 25 #[x.v, y.v] w fun r w' => r = .returned (.bool (eqFn x y)) ∧ Ext w w' := by
  have EF := fun w' h h' => EqFS_c eqS x.body y.body x.body.length y.body.length rfl rfl x.ba y.ba x.bc y.bc w' h h' (fun i u v _ _ w2 h2 h3 => equalStmts_c u v w2 h2 h3)
  have CE := fun w' h h' => equalExprs_c x.e y.e w' h h'
  have CP := fun w' h h' => EqP_c x.params y.params x.params.length y.params.length rfl rfl x.pa y.pa x.pc y.pc w' h h'
  have TE := fun W => run_eqlT W x.t y.t
  have EQ : eqFn x y = (strEq x.name y.name && eqL eqP x.params y.params && eqT x.t y.t && eqL eqS x.body y.body && eqE x.e y.e) := rfl
  have HL := hx.body
  have HL' := hy.body
  have HE := hx.e
  have HE' := hy.e
  have HP := hx.ps
  have HP' := hy.ps
  have hcap : x.body.length ≤ 9223372036854775807 := Nat.le_trans hx.body.2 (by decide)
  have hcap' : y.body.length ≤ 9223372036854775807 := Nat.le_trans hy.body.2 (by decide)
  obtain ⟨B3, hB3⟩ : ∃ B, B = eqL eqS x.body y.body := ⟨_, rfl⟩
  obtain ⟨B2, hB2⟩ : ∃ B, B = eqE x.e y.e := ⟨_, rfl⟩
  obtain ⟨B1, hB1⟩ : ∃ B, B = eqT x.t y.t := ⟨_, rfl⟩
  obtain ⟨B0, hB0⟩ : ∃ B, B = eqL eqP x.params y.params := ⟨_, rfl⟩
  obtain ⟨R, hR⟩ : ∃ R, R = eqFn x y := ⟨_, rfl⟩
  rw [← hB3] at EF EQ
  rw [← hB2] at CE EQ
  rw [← hB1] at EQ
  rw [← hB0] at CP EQ
  simp only [← hB1] at TE
  rw [← hR] at EQ ⊢
  unfold F.v
  unfold E.v at CE
  unfold Ty.v at TE
  clear hB0 hB1 hB2 hB3 hR hx hy
  obtain ⟨xq0, hxq0⟩ : ∃ q, q = x.name := ⟨_, rfl⟩
  obtain ⟨xq1, hxq1⟩ : ∃ q, q = x.pa := ⟨_, rfl⟩
  obtain ⟨xq2, hxq2⟩ : ∃ q, q = x.params.length := ⟨_, rfl⟩
  obtain ⟨xq3, hxq3⟩ : ∃ q, q = x.pc := ⟨_, rfl⟩
  obtain ⟨xq4, hxq4⟩ : ∃ q, q = x.t.k := ⟨_, rfl⟩
  obtain ⟨xq5, hxq5⟩ : ∃ q, q = x.t.b := ⟨_, rfl⟩
  obtain ⟨xq6, hxq6⟩ : ∃ q, q = x.t.n := ⟨_, rfl⟩
  obtain ⟨xq7, hxq7⟩ : ∃ q, q = x.ba := ⟨_, rfl⟩
  obtain ⟨xq8, hxq8⟩ : ∃ q, q = x.body.length := ⟨_, rfl⟩
  obtain ⟨xq9, hxq9⟩ : ∃ q, q = x.bc := ⟨_, rfl⟩
  obtain ⟨xq10, hxq10⟩ : ∃ q, q = x.e.op := ⟨_, rfl⟩
  obtain ⟨xq11, hxq11⟩ : ∃ q, q = x.e.val := ⟨_, rfl⟩
  obtain ⟨xq12, hxq12⟩ : ∃ q, q = x.e.name := ⟨_, rfl⟩
  obtain ⟨xq13, hxq13⟩ : ∃ q, q = x.e.a := ⟨_, rfl⟩
  obtain ⟨xq14, hxq14⟩ : ∃ q, q = x.e.args.length := ⟨_, rfl⟩
  obtain ⟨xq15, hxq15⟩ : ∃ q, q = x.e.cap := ⟨_, rfl⟩
  simp only [← hxq0, ← hxq1, ← hxq2, ← hxq3, ← hxq4, ← hxq5, ← hxq6, ← hxq7, ← hxq8, ← hxq9, ← hxq10, ← hxq11, ← hxq12, ← hxq13, ← hxq14, ← hxq15] at EF EQ CE TE CP HP HL hcap ⊢
  clear hxq0 hxq1 hxq2 hxq3 hxq4 hxq5 hxq6 hxq7 hxq8 hxq9 hxq10 hxq11 hxq12 hxq13 hxq14 hxq15
  obtain ⟨yq0, hyq0⟩ : ∃ q, q = y.name := ⟨_, rfl⟩
  obtain ⟨yq1, hyq1⟩ : ∃ q, q = y.pa := ⟨_, rfl⟩
  obtain ⟨yq2, hyq2⟩ : ∃ q, q = y.params.length := ⟨_, rfl⟩
  obtain ⟨yq3, hyq3⟩ : ∃ q, q = y.pc := ⟨_, rfl⟩
  obtain ⟨yq4, hyq4⟩ : ∃ q, q = y.t.k := ⟨_, rfl⟩
  obtain ⟨yq5, hyq5⟩ : ∃ q, q = y.t.b := ⟨_, rfl⟩
  obtain ⟨yq6, hyq6⟩ : ∃ q, q = y.t.n := ⟨_, rfl⟩
  obtain ⟨yq7, hyq7⟩ : ∃ q, q = y.ba := ⟨_, rfl⟩
  obtain ⟨yq8, hyq8⟩ : ∃ q, q = y.body.length := ⟨_, rfl⟩
  obtain ⟨yq9, hyq9⟩ : ∃ q, q = y.bc := ⟨_, rfl⟩
  obtain ⟨yq10, hyq10⟩ : ∃ q, q = y.e.op := ⟨_, rfl⟩
  obtain ⟨yq11, hyq11⟩ : ∃ q, q = y.e.val := ⟨_, rfl⟩
  obtain ⟨yq12, hyq12⟩ : ∃ q, q = y.e.name := ⟨_, rfl⟩
  obtain ⟨yq13, hyq13⟩ : ∃ q, q = y.e.a := ⟨_, rfl⟩
  obtain ⟨yq14, hyq14⟩ : ∃ q, q = y.e.args.length := ⟨_, rfl⟩
  obtain ⟨yq15, hyq15⟩ : ∃ q, q = y.e.cap := ⟨_, rfl⟩
  simp only [← hyq0, ← hyq1, ← hyq2, ← hyq3, ← hyq4, ← hyq5, ← hyq6, ← hyq7, ← hyq8, ← hyq9, ← hyq10, ← hyq11, ← hyq12, ← hyq13, ← hyq14, ← hyq15] at EF EQ CE TE CP HP' HL' hcap' ⊢
  clear hyq0 hyq1 hyq2 hyq3 hyq4 hyq5 hyq6 hyq7 hyq8 hyq9 hyq10 hyq11 hyq12 hyq13 hyq14 hyq15
  replace EF := Lib.hid EF
  replace EQ := Lib.hid EQ
  replace CE := Lib.hid CE
  replace CP := Lib.hid CP
  replace HL := Lib.hid HL
  replace HL' := Lib.hid HL'
  replace HE := Lib.hid HE
  replace HE' := Lib.hid HE'
  replace HP := Lib.hid HP
  replace HP' := Lib.hid HP'
  by_cases e0 : xq0 = yq0
  · subst e0
    go_enter Tryd.func25, Tryd.ntmps25
    go_wp2_with fail
    refine (CP.out _ (HP.out.to (((Ext.refl _).alloc _).alloc _)) (HP'.out.to (((Ext.refl _).alloc _).alloc _))).mono ?_; rintro e1 w1 ⟨rfl, x1⟩
    have c2 : w1.cell? ⟨w.heap.size, 2, none⟩ = some (.int .i64 xq4) := x1.cell (by simp)
    have d2 : w1.cell? ⟨w.heap.size + 1, 2, none⟩ = some (.int .i64 yq4) := x1.cell (by simp)
    have c3 : w1.cell? ⟨w.heap.size, 3, none⟩ = some (.int .i64 xq5) := x1.cell (by simp)
    have d3 : w1.cell? ⟨w.heap.size + 1, 3, none⟩ = some (.int .i64 yq5) := x1.cell (by simp)
    have c4 : w1.cell? ⟨w.heap.size, 4, none⟩ = some (.int .i64 xq6) := x1.cell (by simp)
    have d4 : w1.cell? ⟨w.heap.size + 1, 4, none⟩ = some (.int .i64 yq6) := x1.cell (by simp)
    have c5 : w1.cell? ⟨w.heap.size, 5, none⟩ = some (.slice xq7 xq8 xq9) := x1.cell (by simp)
    have d5 : w1.cell? ⟨w.heap.size + 1, 5, none⟩ = some (.slice yq7 yq8 yq9) := x1.cell (by simp)
    have c6 : w1.cell? ⟨w.heap.size, 6, none⟩ = some (.int .i64 xq10) := x1.cell (by simp)
    have d6 : w1.cell? ⟨w.heap.size + 1, 6, none⟩ = some (.int .i64 yq10) := x1.cell (by simp)
    have c7 : w1.cell? ⟨w.heap.size, 7, none⟩ = some (.int .u64 (xq11 : Int)) := x1.cell (by simp)
    have d7 : w1.cell? ⟨w.heap.size + 1, 7, none⟩ = some (.int .u64 (yq11 : Int)) := x1.cell (by simp)
    have c8 : w1.cell? ⟨w.heap.size, 8, none⟩ = some (.string xq12) := x1.cell (by simp)
    have d8 : w1.cell? ⟨w.heap.size + 1, 8, none⟩ = some (.string yq12) := x1.cell (by simp)
    have c9 : w1.cell? ⟨w.heap.size, 9, none⟩ = some (.slice xq13 xq14 xq15) := x1.cell (by simp)
    have d9 : w1.cell? ⟨w.heap.size + 1, 9, none⟩ = some (.slice yq13 yq14 yq15) := x1.cell (by simp)
    have X := x1.box.box
    clear x1
    cases B0
    · go_wp2_with fail
      go_ret
      exact ⟨by go_light; simp [EQ.out, strEq, *], X⟩
    · cases B1
      · go_wp2_with fail
        go_ret
        exact ⟨by go_light; simp [EQ.out, strEq, *], X⟩
      · go_wp2_with fail
        refine (EF.out _ (HL.out.to X) (HL'.out.to X)).mono ?_; rintro e2 w2 ⟨rfl, x2⟩
        replace c6 := x2.cell c6
        replace d6 := x2.cell d6
        replace c7 := x2.cell c7
        replace d7 := x2.cell d7
        replace c8 := x2.cell c8
        replace d8 := x2.cell d8
        replace c9 := x2.cell c9
        replace d9 := x2.cell d9
        replace X := X.trans x2
        clear x2
        cases B3
        · go_wp2_with fail
          go_ret
          exact ⟨by go_light; simp [EQ.out, strEq, *], X⟩
        · go_wp2_with fail
          refine (CE.out _ (HE.out.to X) (HE'.out.to X)).mono ?_; rintro e3 w3 ⟨rfl, x3⟩
          replace X := X.trans x3
          clear x3
          go_wp2_with fail
          go_ret
          exact ⟨by go_light; simp [EQ.out, strEq, *], X⟩
  · have s0 : strEq xq0 yq0 = false := decide_eq_false e0
    have t0 : (xq0.toList == yq0.toList) = false := by rw [toL_eq]; exact s0
    go_enter Tryd.func25, Tryd.ntmps25
    go_wp2_with fail
    go_ret
    exact ⟨by go_light; simp [EQ.out, strEq, *], by first | exact Ext.refl _ | exact ((Ext.refl _).alloc _).alloc _⟩
/-- Are two programs equal? -/
def eqG (x y : G) : Bool := eqL eqFn x.funcs y.funcs && eqL eqD x.decls y.decls && eqL eqS x.body y.body
set_option maxRecDepth 100000 in
set_option maxHeartbeats 8000000 in
theorem Equal_c (x y : G) (w : World) (hx : InG w x) (hy : InG w y) : Calls Tryd.prog 10 #[x.v, y.v] w fun r w' => r = .returned (.bool (eqG x y)) ∧ Ext w w' := by
  have EF := fun w' h h' => EqFS_c eqS x.body y.body x.body.length y.body.length rfl rfl x.ba y.ba x.bc y.bc w' h h' (fun i u v _ _ w2 h2 h3 => equalStmts_c u v w2 h2 h3)
  have CF := fun w' h h' => EqFF_c eqFn x.funcs y.funcs x.funcs.length y.funcs.length rfl rfl x.fa y.fa x.fc y.fc w' h h' (fun i u v _ _ w2 h2 h3 => equalFuncs_c u v w2 h2 h3)
  have CD := fun w' h h' => EqD_c x.decls y.decls x.decls.length y.decls.length rfl rfl x.da y.da x.dc y.dc w' h h'
  have EQ : eqG x y = (eqL eqFn x.funcs y.funcs && eqL eqD x.decls y.decls && eqL eqS x.body y.body) := rfl
  have HL := hx.body
  have HL' := hy.body
  have HF := hx.fs
  have HF' := hy.fs
  have HD := hx.ds
  have HD' := hy.ds
  obtain ⟨B2, hB2⟩ : ∃ B, B = eqL eqS x.body y.body := ⟨_, rfl⟩
  obtain ⟨B1, hB1⟩ : ∃ B, B = eqL eqD x.decls y.decls := ⟨_, rfl⟩
  obtain ⟨B0, hB0⟩ : ∃ B, B = eqL eqFn x.funcs y.funcs := ⟨_, rfl⟩
  obtain ⟨R, hR⟩ : ∃ R, R = eqG x y := ⟨_, rfl⟩
  rw [← hB2] at EF EQ
  rw [← hB1] at CD EQ
  rw [← hB0] at CF EQ
  rw [← hR] at EQ ⊢
  unfold G.v
  clear hB0 hB1 hB2 hR hx hy
  obtain ⟨xq0, hxq0⟩ : ∃ q, q = x.fa := ⟨_, rfl⟩
  obtain ⟨xq1, hxq1⟩ : ∃ q, q = x.funcs.length := ⟨_, rfl⟩
  obtain ⟨xq2, hxq2⟩ : ∃ q, q = x.fc := ⟨_, rfl⟩
  obtain ⟨xq3, hxq3⟩ : ∃ q, q = x.da := ⟨_, rfl⟩
  obtain ⟨xq4, hxq4⟩ : ∃ q, q = x.decls.length := ⟨_, rfl⟩
  obtain ⟨xq5, hxq5⟩ : ∃ q, q = x.dc := ⟨_, rfl⟩
  obtain ⟨xq6, hxq6⟩ : ∃ q, q = x.ba := ⟨_, rfl⟩
  obtain ⟨xq7, hxq7⟩ : ∃ q, q = x.body.length := ⟨_, rfl⟩
  obtain ⟨xq8, hxq8⟩ : ∃ q, q = x.bc := ⟨_, rfl⟩
  simp only [← hxq0, ← hxq1, ← hxq2, ← hxq3, ← hxq4, ← hxq5, ← hxq6, ← hxq7, ← hxq8] at EF CD CF HL HD HF ⊢
  clear hxq0 hxq1 hxq2 hxq3 hxq4 hxq5 hxq6 hxq7 hxq8
  obtain ⟨yq0, hyq0⟩ : ∃ q, q = y.fa := ⟨_, rfl⟩
  obtain ⟨yq1, hyq1⟩ : ∃ q, q = y.funcs.length := ⟨_, rfl⟩
  obtain ⟨yq2, hyq2⟩ : ∃ q, q = y.fc := ⟨_, rfl⟩
  obtain ⟨yq3, hyq3⟩ : ∃ q, q = y.da := ⟨_, rfl⟩
  obtain ⟨yq4, hyq4⟩ : ∃ q, q = y.decls.length := ⟨_, rfl⟩
  obtain ⟨yq5, hyq5⟩ : ∃ q, q = y.dc := ⟨_, rfl⟩
  obtain ⟨yq6, hyq6⟩ : ∃ q, q = y.ba := ⟨_, rfl⟩
  obtain ⟨yq7, hyq7⟩ : ∃ q, q = y.body.length := ⟨_, rfl⟩
  obtain ⟨yq8, hyq8⟩ : ∃ q, q = y.bc := ⟨_, rfl⟩
  simp only [← hyq0, ← hyq1, ← hyq2, ← hyq3, ← hyq4, ← hyq5, ← hyq6, ← hyq7, ← hyq8] at EF CD CF HL' HD' HF' ⊢
  clear hyq0 hyq1 hyq2 hyq3 hyq4 hyq5 hyq6 hyq7 hyq8
  replace EF := Lib.hid EF
  replace EQ := Lib.hid EQ
  replace CF := Lib.hid CF
  replace CD := Lib.hid CD
  replace HL := Lib.hid HL
  replace HL' := Lib.hid HL'
  replace HF := Lib.hid HF
  replace HF' := Lib.hid HF'
  replace HD := Lib.hid HD
  replace HD' := Lib.hid HD'
  go_enter Tryd.func10, Tryd.ntmps10
  go_wp2_with fail
  refine (CF.out _ (HF.out.to (((Ext.refl _).alloc _).alloc _)) (HF'.out.to (((Ext.refl _).alloc _).alloc _))).mono ?_; rintro e1 w1 ⟨rfl, x1⟩
  have c1 : w1.cell? ⟨w.heap.size, 1, none⟩ = some (.slice xq3 xq4 xq5) := x1.cell (by simp)
  have d1 : w1.cell? ⟨w.heap.size + 1, 1, none⟩ = some (.slice yq3 yq4 yq5) := x1.cell (by simp)
  have c2 : w1.cell? ⟨w.heap.size, 2, none⟩ = some (.slice xq6 xq7 xq8) := x1.cell (by simp)
  have d2 : w1.cell? ⟨w.heap.size + 1, 2, none⟩ = some (.slice yq6 yq7 yq8) := x1.cell (by simp)
  have X := x1.box.box
  clear x1
  cases B0
  · go_wp2_with fail
    go_ret
    exact ⟨by go_light; simp [EQ.out, *], X⟩
  · go_wp2_with fail
    refine (CD.out _ (HD.out.to X) (HD'.out.to X)).mono ?_; rintro e2 w2 ⟨rfl, x2⟩
    replace c2 := x2.cell c2
    replace d2 := x2.cell d2
    replace X := X.trans x2
    clear x2
    cases B1
    · go_wp2_with fail
      go_ret
      exact ⟨by go_light; simp [EQ.out, *], X⟩
    · go_wp2_with fail
      refine (EF.out _ (HL.out.to X) (HL'.out.to X)).mono ?_; rintro e3 w3 ⟨rfl, x3⟩
      replace X := X.trans x3
      clear x3
      go_wp2_with fail
      go_ret
      exact ⟨by go_light; simp [EQ.out, *], X⟩
end Go.Proofs.YtcheigpejbmaoaaDoor
