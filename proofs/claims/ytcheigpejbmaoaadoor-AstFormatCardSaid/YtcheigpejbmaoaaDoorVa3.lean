/- Depths of statements; shallow statements and functions: the package. Printed by gen/val3.py. -/
import Derived.Test.YtcheigpejbmaoaaDoorVa1
import Derived.Test.YtcheigpejbmaoaaDoorAxA
import Derived.Test.YtcheigpejbmaoaaDoorAsA
namespace Go.Proofs.YtcheigpejbmaoaaDoor
open Go.RowKit
mutual
theorem wtS_sz : ∀ e, S.sz e ≤ wtS e
  | .mk _ n _ _ e _ _ _ _ l => by have := wtSs_sz l; show S.szs l + 1 ≤ n.size + wtE e + wtSs l + 1; omega
theorem wtSs_sz : ∀ l, S.szs l ≤ wtSs l
  | [] => Nat.le_refl _
  | e :: l => by have := wtS_sz e; have := wtSs_sz l; show S.sz e + S.szs l ≤ wtS e + wtSs l; omega
end
theorem wtS_e (x : S) : wtE x.e ≤ wtS x := by rw [wtS_eq]; omega
theorem wtS_b (x : S) : wtSs x.body ≤ wtS x := by rw [wtS_eq]; omega
theorem wtSs_get : ∀ {l : List S} {i : Nat} {x : S}, l[i]? = some x → wtS x ≤ wtSs l
  | [], i, x, h => by simp at h
  | e :: l, 0, x, h => by
    have h' : e = x := by simpa using h
    subst h'
    show wtS e ≤ wtS e + wtSs l; omega
  | e :: l, i + 1, x, h => by
    have := wtSs_get (l := l) (i := i) (x := x) (by simpa using h)
    show wtS x ≤ wtS e + wtSs l
    omega
mutual
theorem depS_sz : ∀ e, depS e ≤ S.sz e
  | .mk _ _ _ _ _ _ _ _ _ l => by have := depSs_sz l; show depSs l + 1 ≤ S.szs l + 1; omega
theorem depSs_sz : ∀ l, depSs l ≤ S.szs l
  | [] => Nat.le_refl _
  | e :: l => by have := depS_sz e; have := depSs_sz l; show max (depS e) (depSs l) ≤ S.sz e + S.szs l; omega
end
theorem Sszs_take : ∀ (l : List S) (j : Nat), S.szs (l.take j) ≤ S.szs l
  | [], j => by simp
  | e :: l, 0 => Nat.zero_le _
  | e :: l, j + 1 => by have := Sszs_take l j; show S.sz e + S.szs (l.take j) ≤ S.sz e + S.szs l; omega
def DpSRel (l : List S) (w1 : World) (s3 s9 : Value) (wr : World) : Prop := ∃ j : Nat, s9 = .int .i64 j ∧ j ≤ l.length ∧ s3 = .int .i64 ((depSs (l.take j) : Nat) : Int) ∧ Ext w1 wr
set_option maxRecDepth 100000 in
set_option maxHeartbeats 4000000 in
theorem stmtDepth_n : ∀ (m : Nat) (e : S), S.sz e < m → S.sz e ≤ 1000000000 → ∀ w, InS w e → Calls Tryd.prog 67 #[e.v] w fun r w' => r = .returned (.int .i64 ((depS e : Nat) : Int)) ∧ Ext w w' := by
  intro m
  induction m with
  | zero => intro e h; exact absurd h (by omega)
  | succ m ih =>
    intro e hm hsz w he
    have IH := Lib.hid (fun (i : Nat) x (hx : e.body[i]? = some x) w' h => ih x (by have := S.sz_arg hx; omega) (by have := S.sz_arg hx; omega) w' h)
    have HL := he.l
    have hcap : e.body.length ≤ 9223372036854775807 := Nat.le_trans he.l.2 (by decide)
    have HS : Hid (∀ j, depSs (e.body.take j) ≤ 1000000000) := Lib.hid (fun j => by
      have h1 := depSs_sz (e.body.take j)
      have h2 := Sszs_take e.body j
      have h3 := S.sz_eq e
      omega)
    rw [depS_eq]
    unfold S.v
    clear ih he hm hsz
    obtain ⟨eq0, heq0⟩ : ∃ q, q = e.kind := ⟨_, rfl⟩
    obtain ⟨eq1, heq1⟩ : ∃ q, q = e.name := ⟨_, rfl⟩
    obtain ⟨eq2, heq2⟩ : ∃ q, q = e.typed := ⟨_, rfl⟩
    obtain ⟨eq3, heq3⟩ : ∃ q, q = e.t.k := ⟨_, rfl⟩
    obtain ⟨eq4, heq4⟩ : ∃ q, q = e.t.b := ⟨_, rfl⟩
    obtain ⟨eq5, heq5⟩ : ∃ q, q = e.t.n := ⟨_, rfl⟩
    obtain ⟨eq6, heq6⟩ : ∃ q, q = e.e.op := ⟨_, rfl⟩
    obtain ⟨eq7, heq7⟩ : ∃ q, q = e.e.val := ⟨_, rfl⟩
    obtain ⟨eq8, heq8⟩ : ∃ q, q = e.e.name := ⟨_, rfl⟩
    obtain ⟨eq9, heq9⟩ : ∃ q, q = e.e.a := ⟨_, rfl⟩
    obtain ⟨eq10, heq10⟩ : ∃ q, q = e.e.args.length := ⟨_, rfl⟩
    obtain ⟨eq11, heq11⟩ : ∃ q, q = e.e.cap := ⟨_, rfl⟩
    obtain ⟨eq12, heq12⟩ : ∃ q, q = e.lo := ⟨_, rfl⟩
    obtain ⟨eq13, heq13⟩ : ∃ q, q = e.hi := ⟨_, rfl⟩
    obtain ⟨eq14, heq14⟩ : ∃ q, q = e.a := ⟨_, rfl⟩
    obtain ⟨eq15, heq15⟩ : ∃ q, q = e.body.length := ⟨_, rfl⟩
    obtain ⟨eq16, heq16⟩ : ∃ q, q = e.cap := ⟨_, rfl⟩
    simp only [← heq0, ← heq1, ← heq2, ← heq3, ← heq4, ← heq5, ← heq6, ← heq7, ← heq8, ← heq9, ← heq10, ← heq11, ← heq12, ← heq13, ← heq14, ← heq15, ← heq16] at HL hcap ⊢
    have HN := Lib.hid heq15
    clear heq0 heq1 heq2 heq3 heq4 heq5 heq6 heq7 heq8 heq9 heq10 heq11 heq12 heq13 heq14 heq15 heq16
    replace HL := Lib.hid HL
    go_enter Tryd.func67, Tryd.ntmps67
    go_wp2_with fail
    obtain ⟨w1, hw1⟩ : ∃ q, q = w.alloc (.cells #[.int .i64 eq0, .string eq1, .bool eq2, .int .i64 eq3, .int .i64 eq4, .int .i64 eq5, .int .i64 eq6, .int .u64 (eq7 : Int), .string eq8, .slice eq9 eq10 eq11, .int .i64 eq12, .int .i64 eq13, .slice eq14 eq15 eq16] 61) := ⟨_, rfl⟩
    have X1 : Ext w w1 := by rw [hw1]; exact (Ext.refl _).alloc _
    rw [← hw1]
    have HX1 := Lib.hid X1
    clear hw1 X1
    go_loopw [3, 9] (DpSRel e.body w1) (fun _ s _ => eq15 - (intOf s).toNat)
    case atStart => exact ⟨0, rfl, Nat.zero_le _, rfl, Ext.refl _⟩
    case round =>
      obtain ⟨j, rfl, hj, rfl, hext⟩ := hrel
      rw [← HN.out] at hj
      have HX := Lib.hid hext
      clear hext
      by_cases hlt : j < eq15
      · obtain ⟨x, hxj⟩ := getE (l := e.body) (i := j) (by rw [← HN.out]; exact hlt)
        obtain ⟨⟨b, o, rfl, k0, k1, k2, k3, k4, k5, k6, k7, k8, k9, k10, k11, k12⟩, hin⟩ := (HL.out.to (HX1.out.trans HX.out)).at hxj
        have PC := IH.out j x hxj
        unfold S.v at PC
        have ES : Hid (depSs (e.body.take (j + 1)) = max (depSs (e.body.take j)) (depS x)) := Lib.hid (by rw [take_snoc hxj, depSs_snoc])
        have hb1 := HS.out j
        have hb2 := HS.out (j + 1)
        obtain ⟨D, hD⟩ : ∃ q, q = depSs (e.body.take j) := ⟨_, rfl⟩
        rw [← hD] at ES hb1 ⊢
        rw [ES.out] at hb2
        obtain ⟨d, hd⟩ : ∃ q, q = depS x := ⟨_, rfl⟩
        rw [← hd] at ES PC hb2
        have HIN := Lib.hid hin
        clear hin hxj hD hd
        obtain ⟨xq0, hxq0⟩ : ∃ q, q = x.kind := ⟨_, rfl⟩
        obtain ⟨xq1, hxq1⟩ : ∃ q, q = x.name := ⟨_, rfl⟩
        obtain ⟨xq2, hxq2⟩ : ∃ q, q = x.typed := ⟨_, rfl⟩
        obtain ⟨xq3, hxq3⟩ : ∃ q, q = x.t.k := ⟨_, rfl⟩
        obtain ⟨xq4, hxq4⟩ : ∃ q, q = x.t.b := ⟨_, rfl⟩
        obtain ⟨xq5, hxq5⟩ : ∃ q, q = x.t.n := ⟨_, rfl⟩
        obtain ⟨xq6, hxq6⟩ : ∃ q, q = x.e.op := ⟨_, rfl⟩
        obtain ⟨xq7, hxq7⟩ : ∃ q, q = x.e.val := ⟨_, rfl⟩
        obtain ⟨xq8, hxq8⟩ : ∃ q, q = x.e.name := ⟨_, rfl⟩
        obtain ⟨xq9, hxq9⟩ : ∃ q, q = x.e.a := ⟨_, rfl⟩
        obtain ⟨xq10, hxq10⟩ : ∃ q, q = x.e.args.length := ⟨_, rfl⟩
        obtain ⟨xq11, hxq11⟩ : ∃ q, q = x.e.cap := ⟨_, rfl⟩
        obtain ⟨xq12, hxq12⟩ : ∃ q, q = x.lo := ⟨_, rfl⟩
        obtain ⟨xq13, hxq13⟩ : ∃ q, q = x.hi := ⟨_, rfl⟩
        obtain ⟨xq14, hxq14⟩ : ∃ q, q = x.a := ⟨_, rfl⟩
        obtain ⟨xq15, hxq15⟩ : ∃ q, q = x.body.length := ⟨_, rfl⟩
        obtain ⟨xq16, hxq16⟩ : ∃ q, q = x.cap := ⟨_, rfl⟩
        simp only [← hxq0, ← hxq1, ← hxq2, ← hxq3, ← hxq4, ← hxq5, ← hxq6, ← hxq7, ← hxq8, ← hxq9, ← hxq10, ← hxq11, ← hxq12, ← hxq13, ← hxq14, ← hxq15, ← hxq16] at k0 k1 k2 k3 k4 k5 k6 k7 k8 k9 k10 k11 k12 PC
        clear hxq0 hxq1 hxq2 hxq3 hxq4 hxq5 hxq6 hxq7 hxq8 hxq9 hxq10 hxq11 hxq12 hxq13 hxq14 hxq15 hxq16
        have HPC := Lib.hid PC
        clear PC
        go_wp2_with fail
        refine (HPC.out _ (HIN.out.to ((Ext.refl _).alloc _))).mono ?_; rintro e w2 ⟨rfl, x2⟩
        have X2 := Lib.hid (HX.out.trans x2.box)
        clear x2 k0 k1 k2 k3 k4 k5 k6 k7 k8 k9 k10 k11 k12
        go_wp2_with fail
        go_roundw
        case rel => exact ⟨j + 1, by go_num, by rw [← HN.out]; omega, by rw [ES.out]; congr 1; omega, X2.out⟩
        case measure => simp [intOf]; omega
      · obtain rfl : j = eq15 := by omega
        have ET : Hid (e.body.take j = e.body) := Lib.hid (by rw [HN.out, List.take_length])
        have hb1 := HS.out j
        rw [ET.out] at hb1 ⊢
        have X := HX1.out.trans HX.out
        obtain ⟨D, hD⟩ : ∃ q, q = depSs e.body := ⟨_, rfl⟩
        have HD := Lib.hid hD
        rw [← hD] at hb1 ⊢
        clear hD
        go_wp2_with fail
        go_ret
        exact ⟨by rw [← HD.out]; push_cast; rfl, X⟩
theorem stmtDepth_c (e : S) (w : World) (h : S.sz e ≤ 1000000000) (he : InS w e) : Calls Tryd.prog 67 #[e.v] w fun r w' => r = .returned (.int .i64 ((depS e : Nat) : Int)) ∧ Ext w w' := stmtDepth_n _ e (Nat.lt_succ_self _) h w he
set_option maxRecDepth 100000 in
set_option maxHeartbeats 8000000 in
theorem isShallowStmt_n : ∀ (m : Nat) (x : S), S.sz x < m → wtS x ≤ 1000000000 → ∀ w, InS w x → Calls Tryd.prog 38 #[x.v] w fun r w' => r = .returned (.bool (shS x)) ∧ Ext w w' := by
  intro m
  induction m with
  | zero => intro x h; exact absurd h (by omega)
  | succ m ih =>
    intro x hm hwt w hx
    have EV := fun w' h => everySh_c shS x.body x.body.length rfl x.a x.cap w' h (fun i u hu w2 h2 => ih u (by have := S.sz_arg hu; omega) (by have := wtSs_get hu; have := wtS_b x; omega) w2 h2)
    have XC := fun w' h => isShallow_c x.e w' (by have := sz_wtE x.e; have := wtS_e x; omega) h
    have DC := fun w' h => stmtDepth_c x w' (by have := wtS_sz x; omega) h
    have EQ := shS_eq x
    have HL := hx.l
    have HI := Lib.hid hx
    have HE := Lib.hid hx.e
    obtain ⟨R, hR⟩ : ∃ R, R = shS x := ⟨_, rfl⟩
    rw [← hR] at EQ ⊢
    obtain ⟨d, hd⟩ : ∃ d, d = depS x := ⟨_, rfl⟩
    rw [← hd] at EQ
    simp only [← hd] at DC
    unfold S.v at DC ⊢
    unfold E.v at XC
    obtain ⟨Be, hBe⟩ : ∃ q, q = decide (depE x.e ≤ 40) := ⟨_, rfl⟩
    obtain ⟨Bb, hBb⟩ : ∃ q, q = x.body.all shS := ⟨_, rfl⟩
    simp only [← hBe, ← hBb] at EQ XC EV
    clear hBe hBb
    clear hR hd hx hm ih hwt
    obtain ⟨xq0, hxq0⟩ : ∃ q, q = x.kind := ⟨_, rfl⟩
    obtain ⟨xq1, hxq1⟩ : ∃ q, q = x.name := ⟨_, rfl⟩
    obtain ⟨xq2, hxq2⟩ : ∃ q, q = x.typed := ⟨_, rfl⟩
    obtain ⟨xq3, hxq3⟩ : ∃ q, q = x.t.k := ⟨_, rfl⟩
    obtain ⟨xq4, hxq4⟩ : ∃ q, q = x.t.b := ⟨_, rfl⟩
    obtain ⟨xq5, hxq5⟩ : ∃ q, q = x.t.n := ⟨_, rfl⟩
    obtain ⟨xq6, hxq6⟩ : ∃ q, q = x.e.op := ⟨_, rfl⟩
    obtain ⟨xq7, hxq7⟩ : ∃ q, q = x.e.val := ⟨_, rfl⟩
    obtain ⟨xq8, hxq8⟩ : ∃ q, q = x.e.name := ⟨_, rfl⟩
    obtain ⟨xq9, hxq9⟩ : ∃ q, q = x.e.a := ⟨_, rfl⟩
    obtain ⟨xq10, hxq10⟩ : ∃ q, q = x.e.args.length := ⟨_, rfl⟩
    obtain ⟨xq11, hxq11⟩ : ∃ q, q = x.e.cap := ⟨_, rfl⟩
    obtain ⟨xq12, hxq12⟩ : ∃ q, q = x.lo := ⟨_, rfl⟩
    obtain ⟨xq13, hxq13⟩ : ∃ q, q = x.hi := ⟨_, rfl⟩
    obtain ⟨xq14, hxq14⟩ : ∃ q, q = x.a := ⟨_, rfl⟩
    obtain ⟨xq15, hxq15⟩ : ∃ q, q = x.body.length := ⟨_, rfl⟩
    obtain ⟨xq16, hxq16⟩ : ∃ q, q = x.cap := ⟨_, rfl⟩
    simp only [← hxq0, ← hxq1, ← hxq2, ← hxq3, ← hxq4, ← hxq5, ← hxq6, ← hxq7, ← hxq8, ← hxq9, ← hxq10, ← hxq11, ← hxq12, ← hxq13, ← hxq14, ← hxq15, ← hxq16] at DC XC EV HL ⊢
    clear hxq0 hxq1 hxq2 hxq3 hxq4 hxq5 hxq6 hxq7 hxq8 hxq9 hxq10 hxq11 hxq12 hxq13 hxq14 hxq15 hxq16
    replace EQ := Lib.hid EQ
    replace EV := Lib.hid EV
    replace XC := Lib.hid XC
    replace DC := Lib.hid DC
    replace HL := Lib.hid HL
    go_enter Tryd.func38, Tryd.ntmps38
    go_wp2_with fail
    refine (DC.out _ (HI.out.to ((Ext.refl _).alloc _))).mono ?_; rintro e0 w0 ⟨rfl, x0⟩
    have c6 : w0.cell? ⟨w.heap.size, 6, none⟩ = some (.int .i64 xq6) := x0.cell (by simp)
    have c7 : w0.cell? ⟨w.heap.size, 7, none⟩ = some (.int .u64 (xq7 : Int)) := x0.cell (by simp)
    have c8 : w0.cell? ⟨w.heap.size, 8, none⟩ = some (.string xq8) := x0.cell (by simp)
    have c9 : w0.cell? ⟨w.heap.size, 9, none⟩ = some (.slice xq9 xq10 xq11) := x0.cell (by simp)
    have c12 : w0.cell? ⟨w.heap.size, 12, none⟩ = some (.slice xq14 xq15 xq16) := x0.cell (by simp)
    have X := x0.box
    clear x0
    by_cases hd : d ≤ 40
    · have td : decide ((d : Int) ≤ 40) = true := decide_eq_true (by omega)
      replace EQ : Hid (R = (Be && Bb)) := Lib.hid (by rw [EQ.out, decide_eq_true hd, Bool.true_and])
      clear hd
      go_wp2_with fail
      refine (XC.out _ (HE.out.to X)).mono ?_; rintro e1 w1 ⟨rfl, x1⟩
      replace c12 := x1.cell c12
      clear c6 c7 c8 c9
      replace X := X.trans x1
      clear x1
      cases Be
      · go_wp2_with fail
        go_ret
        exact ⟨by go_light; simp [EQ.out], X⟩
      · go_wp2_with fail
        refine (EV.out _ (HL.out.to X)).mono ?_; rintro e2 w2 ⟨rfl, x2⟩
        clear c12
        replace X := X.trans x2
        clear x2
        cases Bb
        · go_wp2_with fail
          go_ret
          exact ⟨by go_light; simp [EQ.out], X⟩
        · go_wp2_with fail
          go_ret
          exact ⟨by go_light; simp [EQ.out], X⟩
    · have td : decide ((d : Int) ≤ 40) = false := decide_eq_false (by omega)
      replace EQ : Hid (R = false) := Lib.hid (by rw [EQ.out, decide_eq_false hd, Bool.false_and])
      clear hd
      go_wp2_with fail
      go_ret
      exact ⟨by go_light; simp [EQ.out], X⟩
theorem isShallowStmt_c (x : S) (hwt : wtS x ≤ 1000000000) (w : World) (h : InS w x) : Calls Tryd.prog 38 #[x.v] w fun r w' => r = .returned (.bool (shS x)) ∧ Ext w w' := isShallowStmt_n _ x (Nat.lt_succ_self _) hwt w h
set_option maxRecDepth 100000 in
set_option maxHeartbeats 8000000 in
theorem isShallowFunc_c (x : F) (hwt : wtSs x.body + wtE x.e ≤ 1000000000) (w : World) (hx : InF w x) : Calls Tryd.prog 37 #[x.v] w fun r w' => r = .returned (.bool (shF x)) ∧ Ext w w' := by
  have EV := fun w' h => everySh_c shS x.body x.body.length rfl x.ba x.bc w' h (fun i u hu w2 h2 => isShallowStmt_c u (by have := wtSs_get hu; omega) w2 h2)
  have XC := fun w' h => isShallow_c x.e w' (by have := sz_wtE x.e; omega) h
  have EQ : shF x = (x.body.all shS && decide (depE x.e ≤ 40)) := rfl
  have HL := hx.body
  have HE := Lib.hid hx.e
  obtain ⟨R, hR⟩ : ∃ R, R = shF x := ⟨_, rfl⟩
  rw [← hR] at EQ ⊢
  unfold F.v
  unfold E.v at XC
  obtain ⟨Bb, hBb⟩ : ∃ q, q = x.body.all shS := ⟨_, rfl⟩
  obtain ⟨Be, hBe⟩ : ∃ q, q = decide (depE x.e ≤ 40) := ⟨_, rfl⟩
  simp only [← hBb, ← hBe] at EQ XC EV
  clear hBb hBe
  clear hR hx hwt
  obtain ⟨xq0, hxq0⟩ : ∃ q, q = x.name := ⟨_, rfl⟩
  obtain ⟨xq1, hxq1⟩ : ∃ q, q = x.pa := ⟨_, rfl⟩
  obtain ⟨xq2, hxq2⟩ : ∃ q, q = x.params.length := ⟨_, rfl⟩
  obtain ⟨xq3, hxq3⟩ : ∃ q, q = x.pc := ⟨_, rfl⟩
  obtain ⟨xq4, hxq4⟩ : ∃ q, q = x.t.k := ⟨_, rfl⟩
  obtain ⟨xq5, hxq5⟩ : ∃ q, q = x.t.b := ⟨_, rfl⟩
  obtain ⟨xq6, hxq6⟩ : ∃ q, q = x.t.n := ⟨_, rfl⟩
  obtain ⟨xq7, hxq7⟩ : ∃ q, q = x.ba := ⟨_, rfl⟩
  obtain ⟨xq8, hxq8⟩ : ∃ q, q = x.body.length := ⟨_, rfl⟩
  obtain ⟨xq9, hxq9⟩ : ∃ q, q = x.bc := ⟨_, rfl⟩
  obtain ⟨xq10, hxq10⟩ : ∃ q, q = x.e.op := ⟨_, rfl⟩
  obtain ⟨xq11, hxq11⟩ : ∃ q, q = x.e.val := ⟨_, rfl⟩
  obtain ⟨xq12, hxq12⟩ : ∃ q, q = x.e.name := ⟨_, rfl⟩
  obtain ⟨xq13, hxq13⟩ : ∃ q, q = x.e.a := ⟨_, rfl⟩
  obtain ⟨xq14, hxq14⟩ : ∃ q, q = x.e.args.length := ⟨_, rfl⟩
  obtain ⟨xq15, hxq15⟩ : ∃ q, q = x.e.cap := ⟨_, rfl⟩
  simp only [← hxq0, ← hxq1, ← hxq2, ← hxq3, ← hxq4, ← hxq5, ← hxq6, ← hxq7, ← hxq8, ← hxq9, ← hxq10, ← hxq11, ← hxq12, ← hxq13, ← hxq14, ← hxq15] at XC EV HL ⊢
  clear hxq0 hxq1 hxq2 hxq3 hxq4 hxq5 hxq6 hxq7 hxq8 hxq9 hxq10 hxq11 hxq12 hxq13 hxq14 hxq15
  replace EQ := Lib.hid EQ
  replace EV := Lib.hid EV
  replace XC := Lib.hid XC
  replace HL := Lib.hid HL
  go_enter Tryd.func37, Tryd.ntmps37
  go_wp2_with fail
  refine (EV.out _ (HL.out.to ((Ext.refl _).alloc _))).mono ?_; rintro e1 w1 ⟨rfl, x1⟩
  have c6 : w1.cell? ⟨w.heap.size, 6, none⟩ = some (.int .i64 xq10) := x1.cell (by simp)
  have c7 : w1.cell? ⟨w.heap.size, 7, none⟩ = some (.int .u64 (xq11 : Int)) := x1.cell (by simp)
  have c8 : w1.cell? ⟨w.heap.size, 8, none⟩ = some (.string xq12) := x1.cell (by simp)
  have c9 : w1.cell? ⟨w.heap.size, 9, none⟩ = some (.slice xq13 xq14 xq15) := x1.cell (by simp)
  have X := x1.box
  clear x1
  cases Bb
  · go_wp2_with fail
    go_ret
    exact ⟨by go_light; simp [EQ.out], X⟩
  · go_wp2_with fail
    refine (XC.out _ (HE.out.to X)).mono ?_; rintro e2 w2 ⟨rfl, x2⟩
    clear c6 c7 c8 c9
    replace X := X.trans x2
    clear x2
    cases Be
    · go_wp2_with fail
      go_ret
      exact ⟨by go_light; simp [EQ.out], X⟩
    · go_wp2_with fail
      go_ret
      exact ⟨by go_light; simp [EQ.out], X⟩
end Go.Proofs.YtcheigpejbmaoaaDoor
