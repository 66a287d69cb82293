/- Too deep: the document. Printed by gen/val7.py. -/
import Derived.Test.YtcheigpejbmaoaaDoorVb1
import Derived.Test.YtcheigpejbmaoaaDoorVa3
import Derived.Test.YtcheigpejbmaoaaDoorAxB
namespace Go.Proofs.YtcheigpejbmaoaaDoor
open Go.RowKit
/-- Is a statement too deep, or an expression in it? -/
def dpS : Nat → S → Bool
  | 0, _ => true
  | k + 1, x => (decide (x.kind ≠ 3) && decide (40 < depE x.e)) || x.body.any (dpS k)
theorem anyNot {T : Type} (p : T → Bool) : ∀ l : List T, l.any p = !(l.all fun x => !p x)
  | [] => rfl
  | x :: l => by rw [List.any_cons, List.all_cons, anyNot p l]; cases p x <;> simp
mutual
def exS : S → Bool
  | .mk k _ _ _ e _ _ _ _ l => (decide (k = 3) || decide (depE e ≤ 40)) && exSs l
def exSs : List S → Bool
  | [] => true
  | x :: l => exS x && exSs l
end
theorem exSs_all : ∀ l, exSs l = l.all exS
  | [] => rfl
  | e :: l => by show (exS e && exSs l) = (exS e && l.all exS); rw [exSs_all l]
theorem exS_eq (x : S) : exS x = ((decide (x.kind = 3) || decide (depE x.e ≤ 40)) && x.body.all exS) := by
  obtain ⟨k, n, ty, t, e, lo, hi, a, c, l⟩ := x
  rw [← exSs_all]; rfl
theorem depS_pos (x : S) : 1 ≤ depS x := by rw [depS_eq]; omega
theorem depSs_le (k : Nat) : ∀ l : List S, decide (depSs l ≤ k) = l.all fun x => decide (depS x ≤ k)
  | [] => by simp [depSs]
  | x :: l => by
    rw [List.all_cons, ← depSs_le k l]
    show decide (max (depS x) (depSs l) ≤ k) = _
    rw [Bool.eq_iff_iff, Bool.and_eq_true, decide_eq_true_iff, decide_eq_true_iff, decide_eq_true_iff]
    omega
theorem all_and {T : Type} (p q : T → Bool) : ∀ l : List T, (l.all fun x => p x && q x) = (l.all p && l.all q)
  | [] => rfl
  | x :: l => by rw [List.all_cons, List.all_cons, List.all_cons, all_and p q l]; cases p x <;> cases q x <;> simp
theorem dpS_eq : ∀ (k : Nat) (x : S), dpS k x = !(decide (depS x ≤ k) && exS x)
  | 0, x => by
    have := depS_pos x
    rw [decide_eq_false (by omega)]; rfl
  | k + 1, x => by
    show ((decide (x.kind ≠ 3) && decide (40 < depE x.e)) || x.body.any (dpS k)) = _
    have h1 : x.body.any (dpS k) = !(decide (depSs x.body ≤ k) && x.body.all exS) := by
      rw [anyNot, depSs_le, ← all_and]
      congr 1
      congr 1
      funext u
      rw [dpS_eq k u, Bool.not_not]
    have h2 : decide (depS x ≤ k + 1) = decide (depSs x.body ≤ k) := by
      rw [depS_eq, decide_eq_decide]; omega
    have h3 : decide (40 < depE x.e) = !decide (depE x.e ≤ 40) := by
      by_cases h : depE x.e ≤ 40
      · rw [decide_eq_true h, decide_eq_false (by omega)]; rfl
      · rw [decide_eq_false h, decide_eq_true (by omega)]; rfl
    rw [h1, h2, exS_eq, h3, decide_not]
    cases decide (x.kind = 3) <;> cases decide (depE x.e ≤ 40) <;> cases decide (depSs x.body ≤ k) <;> cases x.body.all exS <;> rfl
theorem all_congr {T : Type} {p q : T → Bool} : ∀ {l : List T}, (∀ (i : Nat) x, l[i]? = some x → p x = q x) → l.all p = l.all q
  | [], _ => rfl
  | x :: l, h => by rw [List.all_cons, List.all_cons, h 0 x rfl, all_congr (fun i y hy => h (i + 1) y (by simpa using hy))]
theorem all_at {T : Type} {p : T → Bool} {l : List T} (h : l.all p = true) {i : Nat} {x : T} (hx : l[i]? = some x) : p x = true := List.all_eq_true.1 h x (List.mem_of_getElem? hx)
theorem emE_dep {e : E} (h : emE e = true) : depE e ≤ 40 := by
  unfold emE at h
  simp only [Bool.and_eq_true, decide_eq_true_eq] at h
  rw [depE_eq, List.length_eq_zero_iff.1 h.2.2.2]
  decide
theorem shS_ok : ∀ (m : Nat) (x : S), S.sz x < m → okS x = true → shS x = (decide (depS x ≤ 40) && exS x)
  | 0, _, h, _ => absurd h (by omega)
  | m + 1, x, hm, hok => by
    rw [shS_eq, exS_eq]
    rw [okS_eq] at hok
    have hb : x.kind = 3 → x.body.all okS = true ∧ emE x.e = true := fun h3 => by
      rw [h3] at hok
      simp only [show ¬ ((3 : Int) = 1) from by decide, show ¬ ((3 : Int) = 2) from by decide, if_false, if_true, Bool.and_eq_true] at hok
      exact ⟨hok.2.2.2.2.2, hok.2.2.1⟩
    have hn : x.kind ≠ 3 → x.body = [] := fun h3 => by
      by_cases h1 : x.kind = 1
      · rw [if_pos h1] at hok
        simp only [Bool.and_eq_true, decide_eq_true_eq] at hok
        exact List.length_eq_zero_iff.1 hok.2.2.2.2.2
      · rw [if_neg h1] at hok
        by_cases h2 : x.kind = 2
        · rw [if_pos h2] at hok
          simp only [Bool.and_eq_true, decide_eq_true_eq] at hok
          exact List.length_eq_zero_iff.1 hok.2.2.2.2.2
        · rw [if_neg h2, if_neg h3] at hok; cases hok
    by_cases h3 : x.kind = 3
    · obtain ⟨hb1, hb2⟩ := hb h3
      rw [decide_eq_true h3, decide_eq_true (emE_dep hb2), Bool.true_or, Bool.true_and, Bool.true_and]
      by_cases hd : depS x ≤ 40
      · rw [decide_eq_true hd, Bool.true_and, Bool.true_and]
        refine all_congr (fun i u hu => ?_)
        rw [shS_ok m u (by have := S.sz_arg hu; omega) (all_at hb1 hu)]
        have h4 : x.body.all (fun y => decide (depS y ≤ 40)) = true := by
          rw [← depSs_le, decide_eq_true]
          rw [depS_eq] at hd; omega
        rw [all_at h4 hu, Bool.true_and]
      · rw [decide_eq_false hd]; rfl
    · rw [hn h3, decide_eq_false h3]
      show (decide (depS x ≤ 40) && (decide (depE x.e ≤ 40) && true)) = (decide (depS x ≤ 40) && ((false || decide (depE x.e ≤ 40)) && true))
      rw [Bool.false_or]
/-- The document's error of a program. -/
def pFn (f : F) : Bool := !(f.body.any (dpS 40)) && decide (depE f.e ≤ 40)
def valR (g : G) : Int := if (g.funcs.all okF && (g.decls.all okD && g.body.all okS)) = true then (if (g.funcs.all pFn && !(g.body.any (dpS 40))) = true then 0 else 3) else 1
theorem body_sh {l : List S} (h : l.all okS = true) : (!(l.any (dpS 40))) = l.all shS := by
  rw [anyNot, Bool.not_not]
  refine all_congr (fun i u hu => ?_)
  rw [shS_ok _ u (Nat.lt_succ_self _) (all_at h hu), dpS_eq, Bool.not_not]
theorem valR_eq (g : G) : valR g = valG g := by
  unfold valR valG okG shG
  by_cases h : (g.funcs.all okF && (g.decls.all okD && g.body.all okS)) = true
  · rw [if_pos h, if_pos h]
    simp only [Bool.and_eq_true] at h
    rw [body_sh h.2.2]
    rw [show g.funcs.all pFn = g.funcs.all shF from all_congr (fun i f hf => by
      have := all_at h.1 hf
      unfold okF at this
      simp only [Bool.and_eq_true] at this
      unfold pFn shF
      rw [body_sh this.2.2.2.1])]
  · rw [if_neg h, if_neg h]
set_option maxRecDepth 100000 in
theorem RDeep_zero (x : S) (w : World) : Calls Tryd.prog 71 #[x.v, .int .i64 0] w fun r w' => r = .returned (.bool (dpS 0 x)) ∧ Ext w w' := by
  unfold S.v
  rw [show dpS 0 x = true from rfl]
  obtain ⟨xq0, hxq0⟩ : ∃ q, q = x.kind := ⟨_, rfl⟩
  obtain ⟨xq1, hxq1⟩ : ∃ q, q = x.name := ⟨_, rfl⟩
  obtain ⟨xq2, hxq2⟩ : ∃ q, q = x.typed := ⟨_, rfl⟩
  obtain ⟨xq3, hxq3⟩ : ∃ q, q = x.t.k := ⟨_, rfl⟩
  obtain ⟨xq4, hxq4⟩ : ∃ q, q = x.t.b := ⟨_, rfl⟩
  obtain ⟨xq5, hxq5⟩ : ∃ q, q = x.t.n := ⟨_, rfl⟩
  obtain ⟨xq6, hxq6⟩ : ∃ q, q = x.e.op := ⟨_, rfl⟩
  obtain ⟨xq7, hxq7⟩ : ∃ q, q = x.e.val := ⟨_, rfl⟩
  obtain ⟨xq8, hxq8⟩ : ∃ q, q = x.e.name := ⟨_, rfl⟩
  obtain ⟨xq9, hxq9⟩ : ∃ q, q = x.e.a := ⟨_, rfl⟩
  obtain ⟨xq10, hxq10⟩ : ∃ q, q = x.e.args.length := ⟨_, rfl⟩
  obtain ⟨xq11, hxq11⟩ : ∃ q, q = x.e.cap := ⟨_, rfl⟩
  obtain ⟨xq12, hxq12⟩ : ∃ q, q = x.lo := ⟨_, rfl⟩
  obtain ⟨xq13, hxq13⟩ : ∃ q, q = x.hi := ⟨_, rfl⟩
  obtain ⟨xq14, hxq14⟩ : ∃ q, q = x.a := ⟨_, rfl⟩
  obtain ⟨xq15, hxq15⟩ : ∃ q, q = x.body.length := ⟨_, rfl⟩
  obtain ⟨xq16, hxq16⟩ : ∃ q, q = x.cap := ⟨_, rfl⟩
  simp only [← hxq0, ← hxq1, ← hxq2, ← hxq3, ← hxq4, ← hxq5, ← hxq6, ← hxq7, ← hxq8, ← hxq9, ← hxq10, ← hxq11, ← hxq12, ← hxq13, ← hxq14, ← hxq15, ← hxq16] at ⊢
  clear hxq0 hxq1 hxq2 hxq3 hxq4 hxq5 hxq6 hxq7 hxq8 hxq9 hxq10 hxq11 hxq12 hxq13 hxq14 hxq15 hxq16
  go_enter Tryd.func71, Tryd.ntmps71
  go_wp2_with fail
  go_ret
  exact ⟨rfl, by first | exact Ext.refl _ | exact (Ext.refl _).alloc _⟩
set_option maxRecDepth 100000 in
set_option maxHeartbeats 8000000 in
theorem RDeep_succ (x : S) (k : Nat) (hk : k ≤ 40) (hwt : wtS x ≤ 1000000000) (hS : ∀ w', InB w' x.a x.body → Calls Tryd.prog 42 #[.slice x.a x.body.length x.cap, .int .i64 (k : Int)] w' fun r w2 => r = .returned (.bool (x.body.any (dpS k))) ∧ Ext w' w2) (w : World) (hx : InS w x) :
    Calls Tryd.prog 71 #[x.v, .int .i64 ((k : Int) + 1)] w fun r w' => r = .returned (.bool (dpS (k + 1) x)) ∧ Ext w w' := by
  have SS := hS
  have DC := fun w' h => RDepth_c x.e w' (by have := wtS_e x; have := sz_wtE x.e; omega) h
  have EQ : dpS (k + 1) x = ((decide (x.kind ≠ 3) && decide (40 < depE x.e)) || x.body.any (dpS k)) := rfl
  have HL := hx.l
  have HE := Lib.hid hx.e
  have t0 : (((k : Int) + 1) == 0) = false := beq_eq_false_iff_ne.2 (by omega)
  have ts : (k : Int) + 1 - 1 = (k : Int) := by omega
  obtain ⟨R, hR⟩ : ∃ R, R = dpS (k + 1) x := ⟨_, rfl⟩
  rw [← hR] at EQ ⊢
  obtain ⟨d, hd⟩ : ∃ d, d = depE x.e := ⟨_, rfl⟩
  rw [← hd] at EQ
  simp only [← hd] at DC
  unfold E.v at DC
  unfold S.v
  obtain ⟨Bb, hBb⟩ : ∃ q, q = x.body.any (dpS k) := ⟨_, rfl⟩
  simp only [← hBb] at EQ SS
  clear hBb hR hd hx hwt hS
  obtain ⟨xq0, hxq0⟩ : ∃ q, q = x.kind := ⟨_, rfl⟩
  obtain ⟨xq1, hxq1⟩ : ∃ q, q = x.name := ⟨_, rfl⟩
  obtain ⟨xq2, hxq2⟩ : ∃ q, q = x.typed := ⟨_, rfl⟩
  obtain ⟨xq3, hxq3⟩ : ∃ q, q = x.t.k := ⟨_, rfl⟩
  obtain ⟨xq4, hxq4⟩ : ∃ q, q = x.t.b := ⟨_, rfl⟩
  obtain ⟨xq5, hxq5⟩ : ∃ q, q = x.t.n := ⟨_, rfl⟩
  obtain ⟨xq6, hxq6⟩ : ∃ q, q = x.e.op := ⟨_, rfl⟩
  obtain ⟨xq7, hxq7⟩ : ∃ q, q = x.e.val := ⟨_, rfl⟩
  obtain ⟨xq8, hxq8⟩ : ∃ q, q = x.e.name := ⟨_, rfl⟩
  obtain ⟨xq9, hxq9⟩ : ∃ q, q = x.e.a := ⟨_, rfl⟩
  obtain ⟨xq10, hxq10⟩ : ∃ q, q = x.e.args.length := ⟨_, rfl⟩
  obtain ⟨xq11, hxq11⟩ : ∃ q, q = x.e.cap := ⟨_, rfl⟩
  obtain ⟨xq12, hxq12⟩ : ∃ q, q = x.lo := ⟨_, rfl⟩
  obtain ⟨xq13, hxq13⟩ : ∃ q, q = x.hi := ⟨_, rfl⟩
  obtain ⟨xq14, hxq14⟩ : ∃ q, q = x.a := ⟨_, rfl⟩
  obtain ⟨xq15, hxq15⟩ : ∃ q, q = x.body.length := ⟨_, rfl⟩
  obtain ⟨xq16, hxq16⟩ : ∃ q, q = x.cap := ⟨_, rfl⟩
  simp only [← hxq0, ← hxq1, ← hxq2, ← hxq3, ← hxq4, ← hxq5, ← hxq6, ← hxq7, ← hxq8, ← hxq9, ← hxq10, ← hxq11, ← hxq12, ← hxq13, ← hxq14, ← hxq15, ← hxq16] at EQ DC SS HL ⊢
  clear hxq0 hxq1 hxq2 hxq3 hxq4 hxq5 hxq6 hxq7 hxq8 hxq9 hxq10 hxq11 hxq12 hxq13 hxq14 hxq15 hxq16
  replace EQ := Lib.hid EQ
  replace SS := Lib.hid SS
  replace DC := Lib.hid DC
  replace HL := Lib.hid HL
  obtain ⟨ww, hww⟩ : ∃ q, q = w.alloc (.cells #[.int .i64 xq0, .string xq1, .bool xq2, .int .i64 xq3, .int .i64 xq4, .int .i64 xq5, .int .i64 xq6, .int .u64 (xq7 : Int), .string xq8, .slice xq9 xq10 xq11, .int .i64 xq12, .int .i64 xq13, .slice xq14 xq15 xq16] 61) := ⟨_, rfl⟩
  have hb6 := hww
  have c6 : ww.cell? ⟨w.heap.size, 6, none⟩ = some (.int .i64 xq6) := by rw [hww]; simp
  have c7 : ww.cell? ⟨w.heap.size, 7, none⟩ = some (.int .u64 (xq7 : Int)) := by rw [hww]; simp
  have c8 : ww.cell? ⟨w.heap.size, 8, none⟩ = some (.string xq8) := by rw [hww]; simp
  have c9 : ww.cell? ⟨w.heap.size, 9, none⟩ = some (.slice xq9 xq10 xq11) := by rw [hww]; simp
  have c12 : ww.cell? ⟨w.heap.size, 12, none⟩ = some (.slice xq14 xq15 xq16) := by rw [hww]; simp
  have X : Ext w ww := by rw [hww]; exact (Ext.refl _).alloc _
  have HC := Lib.hid (And.intro c6 (And.intro c7 (And.intro c8 (And.intro c9 (And.intro c12 X)))))
  have HWW := Lib.hid hww
  clear c6 c7 c8 c9 c12 X hww hb6
  by_cases h3 : xq0 = 3
  · have t3 : (xq0 == 3) = true := beq_iff_eq.2 h3
    have t3b : (xq0 != 3) = false := by rw [bne, t3]; rfl
    have ER : Hid (R = Bb) := Lib.hid (by rw [EQ.out, decide_eq_false (fun q => q h3)]; rfl)
    clear h3 EQ
    go_enter Tryd.func71, Tryd.ntmps71
    go_wp2_with fail
    rw [← HWW.out]
    have X := HC.out.2.2.2.2.2
    refine (SS.out _ (HL.out.to X)).mono ?_; rintro e1 w1 ⟨rfl, x1⟩
    replace X := X.trans x1
    clear x1
    go_wp2_with fail
    go_ret
    exact ⟨by rw [ER.out]; rfl, X⟩
  · have t3 : (xq0 == 3) = false := beq_eq_false_iff_ne.2 h3
    have t3b : (xq0 != 3) = true := by rw [bne, t3]; rfl
    replace EQ : Hid (R = (decide (40 < d) || Bb)) := Lib.hid (by rw [EQ.out, decide_eq_true h3]; rfl)
    clear h3
    go_enter Tryd.func71, Tryd.ntmps71
    go_wp2_with fail
    rw [← HWW.out]
    have X := HC.out.2.2.2.2.2
    have c12 := HC.out.2.2.2.2.1
    refine (DC.out _ (HE.out.to X)).mono ?_; rintro e1 w1 ⟨rfl, x1⟩
    replace c12 := x1.cell c12
    replace X := X.trans x1
    clear x1
    by_cases h4 : 40 < d
    · have t4 : decide ((40 : Int) < (d : Int)) = true := decide_eq_true (by omega)
      have t4b : decide (40 < d) = true := decide_eq_true h4
      have ER : Hid (R = true) := Lib.hid (by rw [EQ.out, t4b]; rfl)
      clear h4 EQ
      go_wp2_with fail
      go_ret
      exact ⟨by rw [ER.out]; rfl, X⟩
    · have t4 : decide ((40 : Int) < (d : Int)) = false := decide_eq_false (by omega)
      have t4b : decide (40 < d) = false := decide_eq_false h4
      have ER : Hid (R = Bb) := Lib.hid (by rw [EQ.out, t4b]; rfl)
      clear h4 EQ
      go_wp2_with fail
      refine (SS.out _ (HL.out.to X)).mono ?_; rintro e2 w2 ⟨rfl, x2⟩
      replace X := X.trans x2
      clear x2 c12
      go_wp2_with fail
      go_ret
      exact ⟨by rw [ER.out]; rfl, X⟩
set_option maxRecDepth 100000 in
set_option maxHeartbeats 4000000 in
theorem RDeeper_c : ∀ (k : Nat), k ≤ 40 → ∀ (l : List S), wtSs l ≤ 1000000000 → ∀ (n : Nat) (_ : l.length = n) (a : Option Addr) (c : Nat) (w : World), InB w a l → Calls Tryd.prog 42 #[.slice a n c, .int .i64 (k : Int)] w fun r w' => r = .returned (.bool (l.any (dpS k))) ∧ Ext w w' := by
  intro k
  induction k with
  | zero =>
    intro hk l hwt n hn a c w hl
    have HP := Lib.hid (fun (x : S) (w' : World) => RDeep_zero x w')
    have HL := Lib.hid hl
    have hcap : n ≤ 9223372036854775807 := by rw [← hn]; exact Nat.le_trans hl.2 (by decide)
    have HN := Lib.hid hn
    have EA : Hid (l.any (dpS 0) = !(l.all fun x => !dpS 0 x)) := Lib.hid (anyNot _ _)
    obtain ⟨R, hR⟩ : ∃ R, R = l.any (dpS 0) := ⟨_, rfl⟩
    rw [← hR] at EA ⊢
    rw [show ((0 : Nat) : Int) = 0 from rfl]
    clear hl hn hR hwt
    go_enter Tryd.func42, Tryd.ntmps42
    go_wp2_with fail
    go_loopw [5] (EvRel (fun x => !dpS 0 x) l w) (fun s _ => n - (intOf s).toNat)
    case atStart => exact ⟨0, rfl, Nat.zero_le _, fun k x hk => absurd hk (by omega), Ext.refl _⟩
    case round =>
      obtain ⟨j, rfl, hj, hall, hext⟩ := hrel
      rw [HN.out] at hj
      have HX := Lib.hid hext
      have HA := Lib.hid hall
      clear hext hall
      by_cases hlt : j < n
      · obtain ⟨x, hxj⟩ := getE (l := l) (i := j) (by rw [HN.out]; exact hlt)
        obtain ⟨⟨b, o, rfl, k0, k1, k2, k3, k4, k5, k6, k7, k8, k9, k10, k11, k12⟩, hin⟩ := (HL.out.to HX.out).at hxj
        have PC := HP.out x
        unfold S.v at PC
        obtain ⟨B, hB⟩ : ∃ B, B = dpS 0 x := ⟨_, rfl⟩
        rw [← hB] at PC
        have HB := Lib.hid hB
        have HXJ := Lib.hid hxj
        clear hxj hB
        obtain ⟨xq0, hxq0⟩ : ∃ q, q = x.kind := ⟨_, rfl⟩
        obtain ⟨xq1, hxq1⟩ : ∃ q, q = x.name := ⟨_, rfl⟩
        obtain ⟨xq2, hxq2⟩ : ∃ q, q = x.typed := ⟨_, rfl⟩
        obtain ⟨xq3, hxq3⟩ : ∃ q, q = x.t.k := ⟨_, rfl⟩
        obtain ⟨xq4, hxq4⟩ : ∃ q, q = x.t.b := ⟨_, rfl⟩
        obtain ⟨xq5, hxq5⟩ : ∃ q, q = x.t.n := ⟨_, rfl⟩
        obtain ⟨xq6, hxq6⟩ : ∃ q, q = x.e.op := ⟨_, rfl⟩
        obtain ⟨xq7, hxq7⟩ : ∃ q, q = x.e.val := ⟨_, rfl⟩
        obtain ⟨xq8, hxq8⟩ : ∃ q, q = x.e.name := ⟨_, rfl⟩
        obtain ⟨xq9, hxq9⟩ : ∃ q, q = x.e.a := ⟨_, rfl⟩
        obtain ⟨xq10, hxq10⟩ : ∃ q, q = x.e.args.length := ⟨_, rfl⟩
        obtain ⟨xq11, hxq11⟩ : ∃ q, q = x.e.cap := ⟨_, rfl⟩
        obtain ⟨xq12, hxq12⟩ : ∃ q, q = x.lo := ⟨_, rfl⟩
        obtain ⟨xq13, hxq13⟩ : ∃ q, q = x.hi := ⟨_, rfl⟩
        obtain ⟨xq14, hxq14⟩ : ∃ q, q = x.a := ⟨_, rfl⟩
        obtain ⟨xq15, hxq15⟩ : ∃ q, q = x.body.length := ⟨_, rfl⟩
        obtain ⟨xq16, hxq16⟩ : ∃ q, q = x.cap := ⟨_, rfl⟩
        simp only [← hxq0, ← hxq1, ← hxq2, ← hxq3, ← hxq4, ← hxq5, ← hxq6, ← hxq7, ← hxq8, ← hxq9, ← hxq10, ← hxq11, ← hxq12, ← hxq13, ← hxq14, ← hxq15, ← hxq16] at k0 k1 k2 k3 k4 k5 k6 k7 k8 k9 k10 k11 k12 PC
        clear hxq0 hxq1 hxq2 hxq3 hxq4 hxq5 hxq6 hxq7 hxq8 hxq9 hxq10 hxq11 hxq12 hxq13 hxq14 hxq15 hxq16
        replace PC := Lib.hid PC
        have HIN := Lib.hid hin
        clear hin
        go_wp2_with fail
        refine (PC.out _).mono ?_; rintro e w2 ⟨rfl, x2⟩
        have X2 := Lib.hid (HX.out.trans x2)
        clear x2 k0 k1 k2 k3 k4 k5 k6 k7 k8 k9 k10 k11 k12
        cases B
        · go_wp2_with fail
          go_roundw
          case rel => exact ⟨j + 1, by go_num, by rw [HN.out]; omega, evStep HXJ.out (by rw [← HB.out]; rfl) HA.out, X2.out⟩
          case measure => simp [intOf]; omega
        · have ER : Hid (R = true) := Lib.hid (by rw [EA.out, evNot (p := fun x => !dpS 0 x) HXJ.out (by rw [← HB.out]; rfl)]; rfl)
          go_wp2_with fail
          go_ret
          exact ⟨by rw [ER.out]; rfl, X2.out⟩
      · obtain rfl : j = n := by omega
        have ER : Hid (R = false) := Lib.hid (by rw [EA.out, evAll HN.out HA.out]; rfl)
        go_wp2_with fail
        go_ret
        exact ⟨by rw [ER.out]; rfl, HX.out⟩
  | succ k ih =>
    intro hk l hwt n hn a c w hl
    have HP := Lib.hid (fun (i : Nat) x (hx : l[i]? = some x) w' (h : InS w' x) => RDeep_succ x k (by omega) (by have := wtSs_get hx; omega) (fun w2 h2 => ih (by omega) x.body (by have := wtSs_get hx; have := wtS_b x; omega) x.body.length rfl x.a x.cap w2 h2) w' h)
    have HL := Lib.hid hl
    have hcap : n ≤ 9223372036854775807 := by rw [← hn]; exact Nat.le_trans hl.2 (by decide)
    have HN := Lib.hid hn
    have EA : Hid (l.any (dpS (k + 1)) = !(l.all fun x => !dpS (k + 1) x)) := Lib.hid (anyNot _ _)
    obtain ⟨R, hR⟩ : ∃ R, R = l.any (dpS (k + 1)) := ⟨_, rfl⟩
    rw [← hR] at EA ⊢
    rw [show ((k + 1 : Nat) : Int) = (k : Int) + 1 from by push_cast; rfl]
    clear ih hl hn hR hwt
    go_enter Tryd.func42, Tryd.ntmps42
    go_wp2_with fail
    go_loopw [5] (EvRel (fun x => !dpS (k + 1) x) l w) (fun s _ => n - (intOf s).toNat)
    case atStart => exact ⟨0, rfl, Nat.zero_le _, fun k x hk => absurd hk (by omega), Ext.refl _⟩
    case round =>
      obtain ⟨j, rfl, hj, hall, hext⟩ := hrel
      rw [HN.out] at hj
      have HX := Lib.hid hext
      have HA := Lib.hid hall
      clear hext hall
      by_cases hlt : j < n
      · obtain ⟨x, hxj⟩ := getE (l := l) (i := j) (by rw [HN.out]; exact hlt)
        obtain ⟨⟨b, o, rfl, k0, k1, k2, k3, k4, k5, k6, k7, k8, k9, k10, k11, k12⟩, hin⟩ := (HL.out.to HX.out).at hxj
        have PC := HP.out j x hxj
        unfold S.v at PC
        obtain ⟨B, hB⟩ : ∃ B, B = dpS (k + 1) x := ⟨_, rfl⟩
        rw [← hB] at PC
        have HB := Lib.hid hB
        have HXJ := Lib.hid hxj
        clear hxj hB
        obtain ⟨xq0, hxq0⟩ : ∃ q, q = x.kind := ⟨_, rfl⟩
        obtain ⟨xq1, hxq1⟩ : ∃ q, q = x.name := ⟨_, rfl⟩
        obtain ⟨xq2, hxq2⟩ : ∃ q, q = x.typed := ⟨_, rfl⟩
        obtain ⟨xq3, hxq3⟩ : ∃ q, q = x.t.k := ⟨_, rfl⟩
        obtain ⟨xq4, hxq4⟩ : ∃ q, q = x.t.b := ⟨_, rfl⟩
        obtain ⟨xq5, hxq5⟩ : ∃ q, q = x.t.n := ⟨_, rfl⟩
        obtain ⟨xq6, hxq6⟩ : ∃ q, q = x.e.op := ⟨_, rfl⟩
        obtain ⟨xq7, hxq7⟩ : ∃ q, q = x.e.val := ⟨_, rfl⟩
        obtain ⟨xq8, hxq8⟩ : ∃ q, q = x.e.name := ⟨_, rfl⟩
        obtain ⟨xq9, hxq9⟩ : ∃ q, q = x.e.a := ⟨_, rfl⟩
        obtain ⟨xq10, hxq10⟩ : ∃ q, q = x.e.args.length := ⟨_, rfl⟩
        obtain ⟨xq11, hxq11⟩ : ∃ q, q = x.e.cap := ⟨_, rfl⟩
        obtain ⟨xq12, hxq12⟩ : ∃ q, q = x.lo := ⟨_, rfl⟩
        obtain ⟨xq13, hxq13⟩ : ∃ q, q = x.hi := ⟨_, rfl⟩
        obtain ⟨xq14, hxq14⟩ : ∃ q, q = x.a := ⟨_, rfl⟩
        obtain ⟨xq15, hxq15⟩ : ∃ q, q = x.body.length := ⟨_, rfl⟩
        obtain ⟨xq16, hxq16⟩ : ∃ q, q = x.cap := ⟨_, rfl⟩
        simp only [← hxq0, ← hxq1, ← hxq2, ← hxq3, ← hxq4, ← hxq5, ← hxq6, ← hxq7, ← hxq8, ← hxq9, ← hxq10, ← hxq11, ← hxq12, ← hxq13, ← hxq14, ← hxq15, ← hxq16] at k0 k1 k2 k3 k4 k5 k6 k7 k8 k9 k10 k11 k12 PC
        clear hxq0 hxq1 hxq2 hxq3 hxq4 hxq5 hxq6 hxq7 hxq8 hxq9 hxq10 hxq11 hxq12 hxq13 hxq14 hxq15 hxq16
        replace PC := Lib.hid PC
        have HIN := Lib.hid hin
        clear hin
        go_wp2_with fail
        refine (PC.out _ HIN.out).mono ?_; rintro e w2 ⟨rfl, x2⟩
        have X2 := Lib.hid (HX.out.trans x2)
        clear x2 k0 k1 k2 k3 k4 k5 k6 k7 k8 k9 k10 k11 k12
        cases B
        · go_wp2_with fail
          go_roundw
          case rel => exact ⟨j + 1, by go_num, by rw [HN.out]; omega, evStep HXJ.out (by rw [← HB.out]; rfl) HA.out, X2.out⟩
          case measure => simp [intOf]; omega
        · have ER : Hid (R = true) := Lib.hid (by rw [EA.out, evNot (p := fun x => !dpS (k + 1) x) HXJ.out (by rw [← HB.out]; rfl)]; rfl)
          go_wp2_with fail
          go_ret
          exact ⟨by rw [ER.out]; rfl, X2.out⟩
      · obtain rfl : j = n := by omega
        have ER : Hid (R = false) := Lib.hid (by rw [EA.out, evAll HN.out HA.out]; rfl)
        go_wp2_with fail
        go_ret
        exact ⟨by rw [ER.out]; rfl, HX.out⟩
end Go.Proofs.YtcheigpejbmaoaaDoor
