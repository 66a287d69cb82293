/- Equality of programs is reflexive and symmetric. -/
import Derived.Test.YtcheigpejbmaoaaDoorAx4
namespace Go.Proofs.YtcheigpejbmaoaaDoor
open Go.RowKit
mutual
theorem eqE_refl : ∀ x, eqE x x = true
  | .mk o v n a c l => by
    show ((o == o) && decide (v = v) && strEq n n && eqEs l l) = true
    rw [eqEs_refl l]; simp [strEq]
theorem eqEs_refl : ∀ l, eqEs l l = true
  | [] => rfl
  | x :: l => by
    show (eqE x x && eqEs l l) = true
    rw [eqE_refl x, eqEs_refl l]; rfl
end
theorem beqI_comm (a b : Int) : (a == b) = (b == a) := by
  by_cases h : a = b
  · subst h; rfl
  · rw [beq_eq_false_iff_ne.2 h, beq_eq_false_iff_ne.2 (Ne.symm h)]
theorem beqB_comm (a b : Bool) : (a == b) = (b == a) := by cases a <;> cases b <;> rfl
theorem decN_comm (a b : Nat) : decide (a = b) = decide (b = a) := by
  by_cases h : a = b
  · subst h; rfl
  · rw [decide_eq_false h, decide_eq_false (Ne.symm h)]
mutual
theorem eqE_comm : ∀ x y, eqE x y = eqE y x
  | .mk o v n a c l, .mk o' v' n' a' c' l' => by
    show ((o == o') && decide (v = v') && strEq n n' && eqEs l l') = ((o' == o) && decide (v' = v) && strEq n' n && eqEs l' l)
    rw [eqEs_comm l l', beqI_comm o o', decN_comm v v', strEq_comm n n']
theorem eqEs_comm : ∀ l m, eqEs l m = eqEs m l
  | [], [] => rfl
  | [], _ :: _ => rfl
  | _ :: _, [] => rfl
  | x :: l, y :: m => by
    show (eqE x y && eqEs l m) = (eqE y x && eqEs m l)
    rw [eqE_comm x y, eqEs_comm l m]
end
theorem eqT_refl (t : Ty) : eqT t t = true := by simp [eqT]
theorem eqT_comm (s t : Ty) : eqT s t = eqT t s := by unfold eqT; rw [beqI_comm s.k, beqI_comm s.b, beqI_comm s.n]
mutual
theorem eqS_refl : ∀ x, eqS x x = true
  | .mk k n ty t e lo hi a c l => by
    show ((k == k) && strEq n n && (ty == ty) && eqT t t && (lo == lo) && (hi == hi) && eqE e e && eqSs l l) = true
    rw [eqSs_refl l, eqE_refl e, eqT_refl t]; simp [strEq]
theorem eqSs_refl : ∀ l, eqSs l l = true
  | [] => rfl
  | x :: l => by
    show (eqS x x && eqSs l l) = true
    rw [eqS_refl x, eqSs_refl l]; rfl
end
mutual
theorem eqS_comm : ∀ x y, eqS x y = eqS y x
  | .mk k n ty t e lo hi a c l, .mk k' n' ty' t' e' lo' hi' a' c' l' => by
    show ((k == k') && strEq n n' && (ty == ty') && eqT t t' && (lo == lo') && (hi == hi') && eqE e e' && eqSs l l') = ((k' == k) && strEq n' n && (ty' == ty) && eqT t' t && (lo' == lo) && (hi' == hi) && eqE e' e && eqSs l' l)
    rw [eqSs_comm l l', eqE_comm e e', eqT_comm t t', beqI_comm k k', beqI_comm lo lo', beqI_comm hi hi', beqB_comm ty ty', strEq_comm n n']
theorem eqSs_comm : ∀ l m, eqSs l m = eqSs m l
  | [], [] => rfl
  | [], _ :: _ => rfl
  | _ :: _, [] => rfl
  | x :: l, y :: m => by
    show (eqS x y && eqSs l m) = (eqS y x && eqSs m l)
    rw [eqS_comm x y, eqSs_comm l m]
end
theorem eqL_refl {T : Type} {p : T → T → Bool} (h : ∀ x, p x x = true) : ∀ l, eqL p l l = true
  | [] => rfl
  | x :: l => by rw [eqL_cons, h, eqL_refl h l]; rfl
theorem eqL_comm {T : Type} {p : T → T → Bool} (h : ∀ x y, p x y = p y x) : ∀ l m, eqL p l m = eqL p m l
  | [], [] => rfl
  | [], _ :: _ => by rw [eqL_nil_cons, eqL_cons_nil]
  | _ :: _, [] => by rw [eqL_nil_cons, eqL_cons_nil]
  | x :: l, y :: m => by rw [eqL_cons, eqL_cons, h x y, eqL_comm h l m]
theorem eqP_refl (x : P) : eqP x x = true := by simp [eqP, strEq, eqT_refl]
theorem eqP_comm (x y : P) : eqP x y = eqP y x := by unfold eqP; rw [strEq_comm x.name, eqT_comm x.t]
theorem eqD_refl (x : D) : eqD x x = true := by simp [eqD, strEq, eqT_refl]
theorem eqD_comm (x y : D) : eqD x y = eqD y x := by unfold eqD; rw [strEq_comm x.name, eqT_comm x.t, beqB_comm x.pub]
theorem eqFn_refl (x : F) : eqFn x x = true := by unfold eqFn; rw [eqL_refl eqP_refl, eqL_refl eqS_refl, eqT_refl, eqE_refl]; simp [strEq]
theorem eqFn_comm (x y : F) : eqFn x y = eqFn y x := by unfold eqFn; rw [strEq_comm x.name, eqL_comm eqP_comm x.params, eqL_comm eqS_comm x.body, eqT_comm x.t, eqE_comm x.e]
theorem eqG_refl (x : G) : eqG x x = true := by unfold eqG; rw [eqL_refl eqFn_refl, eqL_refl eqD_refl, eqL_refl eqS_refl]; rfl
theorem eqG_comm (x y : G) : eqG x y = eqG y x := by unfold eqG; rw [eqL_comm eqFn_comm x.funcs, eqL_comm eqD_comm x.decls, eqL_comm eqS_comm x.body]
end Go.Proofs.YtcheigpejbmaoaaDoor
