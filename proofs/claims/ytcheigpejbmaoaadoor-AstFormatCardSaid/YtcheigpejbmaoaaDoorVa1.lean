/- What Valid says of a program; tests of its parts: the package. Printed by gen/val1.py. -/
import Derived.Test.YtcheigpejbmaoaaDoorAx3
import Derived.Test.YtcheigpejbmaoaaDoorAsT
namespace Go.Proofs.YtcheigpejbmaoaaDoor
open Go.RowKit
/-- Is an expression empty? Is a number one of a loop? -/
def emE (e : E) : Bool := decide (e.op = 0) && (decide (e.val = 0) && (decide (e.name.size = 0) && decide (e.args.length = 0)))
def lpN (n : Int) : Bool := decide (0 ≤ n) && decide (n ≤ 1000000)
mutual
/-- Is a statement well-formed? -/
def okS : S → Bool
  | .mk k n ty t e lo hi _ _ l =>
    if k = 1 then (if ty = true then tyOk t.k t.b t.n else eqT t ⟨0, 0, 0⟩) && (nameOk n && (okE e && (decide (lo = 0) && (decide (hi = 0) && decide (l.length = 0)))))
    else if k = 2 then decide (n.size = 0) && ((!ty && eqT t ⟨0, 0, 0⟩) && (okE e && (decide (lo = 0) && (decide (hi = 0) && decide (l.length = 0)))))
    else if k = 3 then nameOk n && ((!ty && eqT t ⟨0, 0, 0⟩) && (emE e && (lpN lo && (lpN hi && okSs l))))
    else false
def okSs : List S → Bool
  | [] => true
  | x :: l => okS x && okSs l
end
theorem okSs_all : ∀ l, okSs l = l.all okS
  | [] => rfl
  | e :: l => by show (okS e && okSs l) = (okS e && l.all okS); rw [okSs_all l]
theorem okS_eq (x : S) : okS x = (if x.kind = 1 then (if x.typed = true then tyOk x.t.k x.t.b x.t.n else eqT x.t ⟨0, 0, 0⟩) && (nameOk x.name && (okE x.e && (decide (x.lo = 0) && (decide (x.hi = 0) && decide (x.body.length = 0)))))
    else if x.kind = 2 then decide (x.name.size = 0) && ((!x.typed && eqT x.t ⟨0, 0, 0⟩) && (okE x.e && (decide (x.lo = 0) && (decide (x.hi = 0) && decide (x.body.length = 0)))))
    else if x.kind = 3 then nameOk x.name && ((!x.typed && eqT x.t ⟨0, 0, 0⟩) && (emE x.e && (lpN x.lo && (lpN x.hi && x.body.all okS))))
    else false) := by
  obtain ⟨k, n, ty, t, e, lo, hi, a, c, l⟩ := x
  rw [← okSs_all]; rfl
def okP (p : P) : Bool := nameOk p.name && tyOk p.t.k p.t.b p.t.n
def okD (p : D) : Bool := nameOk p.name && tyOk p.t.k p.t.b p.t.n
def okF (f : F) : Bool := nameOk f.name && (f.params.all okP && (tyOk f.t.k f.t.b f.t.n && (f.body.all okS && okE f.e)))
def okG (g : G) : Bool := g.funcs.all okF && (g.decls.all okD && g.body.all okS)
mutual
/-- The depth of a statement. -/
def depS : S → Nat
  | .mk _ _ _ _ _ _ _ _ _ l => depSs l + 1
def depSs : List S → Nat
  | [] => 0
  | x :: l => max (depS x) (depSs l)
end
theorem depS_eq (e : S) : depS e = depSs e.body + 1 := by
  obtain ⟨k, n, ty, t, e, lo, hi, a, c, l⟩ := e
  rfl
theorem depSs_snoc : ∀ (l : List S) (e : S), depSs (l ++ [e]) = max (depSs l) (depS e)
  | [], e => by show max (depS e) 0 = max 0 (depS e); omega
  | x :: l, e => by show max (depS x) (depSs (l ++ [e])) = max (max (depS x) (depSs l)) (depS e); rw [depSs_snoc l e]; omega
mutual
/-- Is a statement shallow? -/
def shS : S → Bool
  | .mk k n ty t e lo hi a c l => decide (depS (.mk k n ty t e lo hi a c l) ≤ 40) && (decide (depE e ≤ 40) && shSs l)
def shSs : List S → Bool
  | [] => true
  | x :: l => shS x && shSs l
end
theorem shSs_all : ∀ l, shSs l = l.all shS
  | [] => rfl
  | e :: l => by show (shS e && shSs l) = (shS e && l.all shS); rw [shSs_all l]
theorem shS_eq (x : S) : shS x = (decide (depS x ≤ 40) && (decide (depE x.e ≤ 40) && x.body.all shS)) := by
  obtain ⟨k, n, ty, t, e, lo, hi, a, c, l⟩ := x
  rw [← shSs_all]; rfl
def shF (f : F) : Bool := f.body.all shS && decide (depE f.e ≤ 40)
def shG (g : G) : Bool := g.funcs.all shF && g.body.all shS
/-- The error of a program. -/
def valG (g : G) : Int := if okG g = true then (if shG g = true then 0 else 3) else 1
theorem tyZ : Ty.v ⟨0, 0, 0⟩ = .agg #[.int .i64 0, .int .i64 0, .int .i64 0] := rfl
theorem beqD (a b : Int) : (a == b) = decide (a = b) := by
  by_cases h : a = b
  · subst h; simp
  · rw [decide_eq_false h, beq_eq_false_iff_ne]; exact h
theorem beqN (a : Nat) : ((a : Int) == 0) = decide (a = 0) := by
  by_cases h : a = 0
  · subst h; rfl
  · rw [decide_eq_false h, beq_eq_false_iff_ne]; omega
set_option maxRecDepth 100000 in
set_option maxHeartbeats 4000000 in
theorem everyS_c (p : S → Bool) (l : List S) (n : Nat) (hn : l.length = n) (a : Option Addr) (c : Nat) (w : World) (hl : InB w a l) (hp : ∀ (i : Nat) x, l[i]? = some x → ∀ w', InS w' x → Calls Tryd.prog 36 #[x.v] w' fun r w2 => r = .returned (.bool (p x)) ∧ Ext w' w2) :
    Calls Tryd.prog 35 #[.slice a n c, .func (.func 36) #[] #[]] w fun r w' => r = .returned (.bool (l.all p)) ∧ Ext w w' := by
  have HL := Lib.hid hl
  have HP := Lib.hid hp
  have hcap := hl.2
  rw [hn] at hcap
  have HN := Lib.hid hn
  clear hl hp hn
  go_enter Tryd.func35, Tryd.ntmps35
  go_wp2_with fail
  go_loopw [9] (EvRel p l w) (fun s _ => n - (intOf s).toNat)
  case atStart => exact ⟨0, rfl, Nat.zero_le _, fun k x hk => absurd hk (by omega), Ext.refl _⟩
  case round =>
    obtain ⟨j, rfl, hj, hall, hext⟩ := hrel
    rw [HN.out] at hj
    have HX := Lib.hid hext
    have HA := Lib.hid hall
    clear hext hall
    by_cases hlt : j < n
    · obtain ⟨x, hxj⟩ := getE (l := l) (i := j) (by rw [HN.out]; exact hlt)
      obtain ⟨⟨b, o, rfl, k0, k1, k2, k3, k4, k5, k6, k7, k8, k9, k10, k11, k12⟩, hin⟩ := (HL.out.to HX.out).at hxj
      have PC := HP.out j x hxj
      unfold S.v at PC
      obtain ⟨B, hB⟩ : ∃ B, B = p x := ⟨_, rfl⟩
      rw [← hB] at PC
      have HB := Lib.hid hB
      have HXJ := Lib.hid hxj
      clear hxj hB
      obtain ⟨xq0, hxq0⟩ : ∃ q, q = x.kind := ⟨_, rfl⟩
      obtain ⟨xq1, hxq1⟩ : ∃ q, q = x.name := ⟨_, rfl⟩
      obtain ⟨xq2, hxq2⟩ : ∃ q, q = x.typed := ⟨_, rfl⟩
      obtain ⟨xq3, hxq3⟩ : ∃ q, q = x.t.k := ⟨_, rfl⟩
      obtain ⟨xq4, hxq4⟩ : ∃ q, q = x.t.b := ⟨_, rfl⟩
      obtain ⟨xq5, hxq5⟩ : ∃ q, q = x.t.n := ⟨_, rfl⟩
      obtain ⟨xq6, hxq6⟩ : ∃ q, q = x.e.op := ⟨_, rfl⟩
      obtain ⟨xq7, hxq7⟩ : ∃ q, q = x.e.val := ⟨_, rfl⟩
      obtain ⟨xq8, hxq8⟩ : ∃ q, q = x.e.name := ⟨_, rfl⟩
      obtain ⟨xq9, hxq9⟩ : ∃ q, q = x.e.a := ⟨_, rfl⟩
      obtain ⟨xq10, hxq10⟩ : ∃ q, q = x.e.args.length := ⟨_, rfl⟩
      obtain ⟨xq11, hxq11⟩ : ∃ q, q = x.e.cap := ⟨_, rfl⟩
      obtain ⟨xq12, hxq12⟩ : ∃ q, q = x.lo := ⟨_, rfl⟩
      obtain ⟨xq13, hxq13⟩ : ∃ q, q = x.hi := ⟨_, rfl⟩
      obtain ⟨xq14, hxq14⟩ : ∃ q, q = x.a := ⟨_, rfl⟩
      obtain ⟨xq15, hxq15⟩ : ∃ q, q = x.body.length := ⟨_, rfl⟩
      obtain ⟨xq16, hxq16⟩ : ∃ q, q = x.cap := ⟨_, rfl⟩
      simp only [← hxq0, ← hxq1, ← hxq2, ← hxq3, ← hxq4, ← hxq5, ← hxq6, ← hxq7, ← hxq8, ← hxq9, ← hxq10, ← hxq11, ← hxq12, ← hxq13, ← hxq14, ← hxq15, ← hxq16] at k0 k1 k2 k3 k4 k5 k6 k7 k8 k9 k10 k11 k12 PC
      clear hxq0 hxq1 hxq2 hxq3 hxq4 hxq5 hxq6 hxq7 hxq8 hxq9 hxq10 hxq11 hxq12 hxq13 hxq14 hxq15 hxq16
      have HPC := Lib.hid PC
      have HIN := Lib.hid hin
      clear hin PC
      go_wp2_with fail
      refine (HPC.out _ (HIN.out.to ((Ext.refl _).alloc _))).mono ?_; rintro e w2 ⟨rfl, x2⟩
      have X2 := Lib.hid (HX.out.trans x2.box)
      clear x2 k0 k1 k2 k3 k4 k5 k6 k7 k8 k9 k10 k11 k12
      cases B
      · go_wp2_with fail
        go_ret
        exact ⟨by rw [evNot HXJ.out HB.out.symm]; rfl, X2.out⟩
      · go_wp2_with fail
        go_roundw
        case rel => exact ⟨j + 1, by go_num, by rw [HN.out]; omega, evStep HXJ.out HB.out.symm HA.out, X2.out⟩
        case measure => simp [intOf]; omega
    · obtain rfl : j = n := by omega
      go_wp2_with fail
      go_ret
      exact ⟨by rw [evAll HN.out HA.out]; rfl, HX.out⟩
set_option maxRecDepth 100000 in
set_option maxHeartbeats 4000000 in
theorem everySh_c (p : S → Bool) (l : List S) (n : Nat) (hn : l.length = n) (a : Option Addr) (c : Nat) (w : World) (hl : InB w a l) (hp : ∀ (i : Nat) x, l[i]? = some x → ∀ w', InS w' x → Calls Tryd.prog 38 #[x.v] w' fun r w2 => r = .returned (.bool (p x)) ∧ Ext w' w2) :
    Calls Tryd.prog 35 #[.slice a n c, .func (.func 38) #[] #[]] w fun r w' => r = .returned (.bool (l.all p)) ∧ Ext w w' := by
  have HL := Lib.hid hl
  have HP := Lib.hid hp
  have hcap := hl.2
  rw [hn] at hcap
  have HN := Lib.hid hn
  clear hl hp hn
  go_enter Tryd.func35, Tryd.ntmps35
  go_wp2_with fail
  go_loopw [9] (EvRel p l w) (fun s _ => n - (intOf s).toNat)
  case atStart => exact ⟨0, rfl, Nat.zero_le _, fun k x hk => absurd hk (by omega), Ext.refl _⟩
  case round =>
    obtain ⟨j, rfl, hj, hall, hext⟩ := hrel
    rw [HN.out] at hj
    have HX := Lib.hid hext
    have HA := Lib.hid hall
    clear hext hall
    by_cases hlt : j < n
    · obtain ⟨x, hxj⟩ := getE (l := l) (i := j) (by rw [HN.out]; exact hlt)
      obtain ⟨⟨b, o, rfl, k0, k1, k2, k3, k4, k5, k6, k7, k8, k9, k10, k11, k12⟩, hin⟩ := (HL.out.to HX.out).at hxj
      have PC := HP.out j x hxj
      unfold S.v at PC
      obtain ⟨B, hB⟩ : ∃ B, B = p x := ⟨_, rfl⟩
      rw [← hB] at PC
      have HB := Lib.hid hB
      have HXJ := Lib.hid hxj
      clear hxj hB
      obtain ⟨xq0, hxq0⟩ : ∃ q, q = x.kind := ⟨_, rfl⟩
      obtain ⟨xq1, hxq1⟩ : ∃ q, q = x.name := ⟨_, rfl⟩
      obtain ⟨xq2, hxq2⟩ : ∃ q, q = x.typed := ⟨_, rfl⟩
      obtain ⟨xq3, hxq3⟩ : ∃ q, q = x.t.k := ⟨_, rfl⟩
      obtain ⟨xq4, hxq4⟩ : ∃ q, q = x.t.b := ⟨_, rfl⟩
      obtain ⟨xq5, hxq5⟩ : ∃ q, q = x.t.n := ⟨_, rfl⟩
      obtain ⟨xq6, hxq6⟩ : ∃ q, q = x.e.op := ⟨_, rfl⟩
      obtain ⟨xq7, hxq7⟩ : ∃ q, q = x.e.val := ⟨_, rfl⟩
      obtain ⟨xq8, hxq8⟩ : ∃ q, q = x.e.name := ⟨_, rfl⟩
      obtain ⟨xq9, hxq9⟩ : ∃ q, q = x.e.a := ⟨_, rfl⟩
      obtain ⟨xq10, hxq10⟩ : ∃ q, q = x.e.args.length := ⟨_, rfl⟩
      obtain ⟨xq11, hxq11⟩ : ∃ q, q = x.e.cap := ⟨_, rfl⟩
      obtain ⟨xq12, hxq12⟩ : ∃ q, q = x.lo := ⟨_, rfl⟩
      obtain ⟨xq13, hxq13⟩ : ∃ q, q = x.hi := ⟨_, rfl⟩
      obtain ⟨xq14, hxq14⟩ : ∃ q, q = x.a := ⟨_, rfl⟩
      obtain ⟨xq15, hxq15⟩ : ∃ q, q = x.body.length := ⟨_, rfl⟩
      obtain ⟨xq16, hxq16⟩ : ∃ q, q = x.cap := ⟨_, rfl⟩
      simp only [← hxq0, ← hxq1, ← hxq2, ← hxq3, ← hxq4, ← hxq5, ← hxq6, ← hxq7, ← hxq8, ← hxq9, ← hxq10, ← hxq11, ← hxq12, ← hxq13, ← hxq14, ← hxq15, ← hxq16] at k0 k1 k2 k3 k4 k5 k6 k7 k8 k9 k10 k11 k12 PC
      clear hxq0 hxq1 hxq2 hxq3 hxq4 hxq5 hxq6 hxq7 hxq8 hxq9 hxq10 hxq11 hxq12 hxq13 hxq14 hxq15 hxq16
      have HPC := Lib.hid PC
      have HIN := Lib.hid hin
      clear hin PC
      go_wp2_with fail
      refine (HPC.out _ (HIN.out.to ((Ext.refl _).alloc _))).mono ?_; rintro e w2 ⟨rfl, x2⟩
      have X2 := Lib.hid (HX.out.trans x2.box)
      clear x2 k0 k1 k2 k3 k4 k5 k6 k7 k8 k9 k10 k11 k12
      cases B
      · go_wp2_with fail
        go_ret
        exact ⟨by rw [evNot HXJ.out HB.out.symm]; rfl, X2.out⟩
      · go_wp2_with fail
        go_roundw
        case rel => exact ⟨j + 1, by go_num, by rw [HN.out]; omega, evStep HXJ.out HB.out.symm HA.out, X2.out⟩
        case measure => simp [intOf]; omega
    · obtain rfl : j = n := by omega
      go_wp2_with fail
      go_ret
      exact ⟨by rw [evAll HN.out HA.out]; rfl, HX.out⟩
set_option maxRecDepth 100000 in
set_option maxHeartbeats 4000000 in
theorem everyP_c (p : P → Bool) (l : List P) (n : Nat) (hn : l.length = n) (a : Option Addr) (c : Nat) (w : World) (hl : InPs w a l) (hp : ∀ (i : Nat) x, l[i]? = some x → ∀ w', InP w' x → Calls Tryd.prog 63 #[x.v] w' fun r w2 => r = .returned (.bool (p x)) ∧ Ext w' w2) :
    Calls Tryd.prog 62 #[.slice a n c, .func (.func 63) #[] #[]] w fun r w' => r = .returned (.bool (l.all p)) ∧ Ext w w' := by
  have HL := Lib.hid hl
  have HP := Lib.hid hp
  have hcap := hl.2
  rw [hn] at hcap
  have HN := Lib.hid hn
  clear hl hp hn
  go_enter Tryd.func62, Tryd.ntmps62
  go_wp2_with fail
  go_loopw [9] (EvRel p l w) (fun s _ => n - (intOf s).toNat)
  case atStart => exact ⟨0, rfl, Nat.zero_le _, fun k x hk => absurd hk (by omega), Ext.refl _⟩
  case round =>
    obtain ⟨j, rfl, hj, hall, hext⟩ := hrel
    rw [HN.out] at hj
    have HX := Lib.hid hext
    have HA := Lib.hid hall
    clear hext hall
    by_cases hlt : j < n
    · obtain ⟨x, hxj⟩ := getE (l := l) (i := j) (by rw [HN.out]; exact hlt)
      obtain ⟨⟨b, o, rfl, k0, k1, k2, k3⟩, hin⟩ := (HL.out.to HX.out).at hxj
      have PC := HP.out j x hxj
      unfold P.v at PC
      obtain ⟨B, hB⟩ : ∃ B, B = p x := ⟨_, rfl⟩
      rw [← hB] at PC
      have HB := Lib.hid hB
      have HXJ := Lib.hid hxj
      clear hxj hB
      obtain ⟨xq0, hxq0⟩ : ∃ q, q = x.name := ⟨_, rfl⟩
      obtain ⟨xq1, hxq1⟩ : ∃ q, q = x.t.k := ⟨_, rfl⟩
      obtain ⟨xq2, hxq2⟩ : ∃ q, q = x.t.b := ⟨_, rfl⟩
      obtain ⟨xq3, hxq3⟩ : ∃ q, q = x.t.n := ⟨_, rfl⟩
      simp only [← hxq0, ← hxq1, ← hxq2, ← hxq3] at k0 k1 k2 k3 PC
      clear hxq0 hxq1 hxq2 hxq3
      have HPC := Lib.hid PC
      have HIN := Lib.hid hin
      clear hin PC
      go_wp2_with fail
      refine (HPC.out _ (HIN.out.to ((Ext.refl _).alloc _))).mono ?_; rintro e w2 ⟨rfl, x2⟩
      have X2 := Lib.hid (HX.out.trans x2.box)
      clear x2 k0 k1 k2 k3
      cases B
      · go_wp2_with fail
        go_ret
        exact ⟨by rw [evNot HXJ.out HB.out.symm]; rfl, X2.out⟩
      · go_wp2_with fail
        go_roundw
        case rel => exact ⟨j + 1, by go_num, by rw [HN.out]; omega, evStep HXJ.out HB.out.symm HA.out, X2.out⟩
        case measure => simp [intOf]; omega
    · obtain rfl : j = n := by omega
      go_wp2_with fail
      go_ret
      exact ⟨by rw [evAll HN.out HA.out]; rfl, HX.out⟩
set_option maxRecDepth 100000 in
set_option maxHeartbeats 4000000 in
theorem everyD_c (p : D → Bool) (l : List D) (n : Nat) (hn : l.length = n) (a : Option Addr) (c : Nat) (w : World) (hl : InDs w a l) (hp : ∀ (i : Nat) x, l[i]? = some x → ∀ w', InD w' x → Calls Tryd.prog 34 #[x.v] w' fun r w2 => r = .returned (.bool (p x)) ∧ Ext w' w2) :
    Calls Tryd.prog 33 #[.slice a n c, .func (.func 34) #[] #[]] w fun r w' => r = .returned (.bool (l.all p)) ∧ Ext w w' := by
  have HL := Lib.hid hl
  have HP := Lib.hid hp
  have hcap := hl.2
  rw [hn] at hcap
  have HN := Lib.hid hn
  clear hl hp hn
  go_enter Tryd.func33, Tryd.ntmps33
  go_wp2_with fail
  go_loopw [9] (EvRel p l w) (fun s _ => n - (intOf s).toNat)
  case atStart => exact ⟨0, rfl, Nat.zero_le _, fun k x hk => absurd hk (by omega), Ext.refl _⟩
  case round =>
    obtain ⟨j, rfl, hj, hall, hext⟩ := hrel
    rw [HN.out] at hj
    have HX := Lib.hid hext
    have HA := Lib.hid hall
    clear hext hall
    by_cases hlt : j < n
    · obtain ⟨x, hxj⟩ := getE (l := l) (i := j) (by rw [HN.out]; exact hlt)
      obtain ⟨⟨b, o, rfl, k0, k1, k2, k3, k4⟩, hin⟩ := (HL.out.to HX.out).at hxj
      have PC := HP.out j x hxj
      unfold D.v at PC
      obtain ⟨B, hB⟩ : ∃ B, B = p x := ⟨_, rfl⟩
      rw [← hB] at PC
      have HB := Lib.hid hB
      have HXJ := Lib.hid hxj
      clear hxj hB
      obtain ⟨xq0, hxq0⟩ : ∃ q, q = x.pub := ⟨_, rfl⟩
      obtain ⟨xq1, hxq1⟩ : ∃ q, q = x.name := ⟨_, rfl⟩
      obtain ⟨xq2, hxq2⟩ : ∃ q, q = x.t.k := ⟨_, rfl⟩
      obtain ⟨xq3, hxq3⟩ : ∃ q, q = x.t.b := ⟨_, rfl⟩
      obtain ⟨xq4, hxq4⟩ : ∃ q, q = x.t.n := ⟨_, rfl⟩
      simp only [← hxq0, ← hxq1, ← hxq2, ← hxq3, ← hxq4] at k0 k1 k2 k3 k4 PC
      clear hxq0 hxq1 hxq2 hxq3 hxq4
      have HPC := Lib.hid PC
      have HIN := Lib.hid hin
      clear hin PC
      go_wp2_with fail
      refine (HPC.out _ (HIN.out.to ((Ext.refl _).alloc _))).mono ?_; rintro e w2 ⟨rfl, x2⟩
      have X2 := Lib.hid (HX.out.trans x2.box)
      clear x2 k0 k1 k2 k3 k4
      cases B
      · go_wp2_with fail
        go_ret
        exact ⟨by rw [evNot HXJ.out HB.out.symm]; rfl, X2.out⟩
      · go_wp2_with fail
        go_roundw
        case rel => exact ⟨j + 1, by go_num, by rw [HN.out]; omega, evStep HXJ.out HB.out.symm HA.out, X2.out⟩
        case measure => simp [intOf]; omega
    · obtain rfl : j = n := by omega
      go_wp2_with fail
      go_ret
      exact ⟨by rw [evAll HN.out HA.out]; rfl, HX.out⟩
set_option maxRecDepth 100000 in
set_option maxHeartbeats 4000000 in
theorem everyF_c (p : F → Bool) (l : List F) (n : Nat) (hn : l.length = n) (a : Option Addr) (c : Nat) (w : World) (hl : InFs w a l) (hp : ∀ (i : Nat) x, l[i]? = some x → ∀ w', InF w' x → Calls Tryd.prog 32 #[x.v] w' fun r w2 => r = .returned (.bool (p x)) ∧ Ext w' w2) :
    Calls Tryd.prog 31 #[.slice a n c, .func (.func 32) #[] #[]] w fun r w' => r = .returned (.bool (l.all p)) ∧ Ext w w' := by
  have HL := Lib.hid hl
  have HP := Lib.hid hp
  have hcap := hl.2
  rw [hn] at hcap
  have HN := Lib.hid hn
  clear hl hp hn
  go_enter Tryd.func31, Tryd.ntmps31
  go_wp2_with fail
  go_loopw [9] (EvRel p l w) (fun s _ => n - (intOf s).toNat)
  case atStart => exact ⟨0, rfl, Nat.zero_le _, fun k x hk => absurd hk (by omega), Ext.refl _⟩
  case round =>
    obtain ⟨j, rfl, hj, hall, hext⟩ := hrel
    rw [HN.out] at hj
    have HX := Lib.hid hext
    have HA := Lib.hid hall
    clear hext hall
    by_cases hlt : j < n
    · obtain ⟨x, hxj⟩ := getE (l := l) (i := j) (by rw [HN.out]; exact hlt)
      obtain ⟨⟨b, o, rfl, k0, k1, k2, k3, k4, k5, k6, k7, k8, k9⟩, hin⟩ := (HL.out.to HX.out).at hxj
      have PC := HP.out j x hxj
      unfold F.v at PC
      obtain ⟨B, hB⟩ : ∃ B, B = p x := ⟨_, rfl⟩
      rw [← hB] at PC
      have HB := Lib.hid hB
      have HXJ := Lib.hid hxj
      clear hxj hB
      obtain ⟨xq0, hxq0⟩ : ∃ q, q = x.name := ⟨_, rfl⟩
      obtain ⟨xq1, hxq1⟩ : ∃ q, q = x.pa := ⟨_, rfl⟩
      obtain ⟨xq2, hxq2⟩ : ∃ q, q = x.params.length := ⟨_, rfl⟩
      obtain ⟨xq3, hxq3⟩ : ∃ q, q = x.pc := ⟨_, rfl⟩
      obtain ⟨xq4, hxq4⟩ : ∃ q, q = x.t.k := ⟨_, rfl⟩
      obtain ⟨xq5, hxq5⟩ : ∃ q, q = x.t.b := ⟨_, rfl⟩
      obtain ⟨xq6, hxq6⟩ : ∃ q, q = x.t.n := ⟨_, rfl⟩
      obtain ⟨xq7, hxq7⟩ : ∃ q, q = x.ba := ⟨_, rfl⟩
      obtain ⟨xq8, hxq8⟩ : ∃ q, q = x.body.length := ⟨_, rfl⟩
      obtain ⟨xq9, hxq9⟩ : ∃ q, q = x.bc := ⟨_, rfl⟩
      obtain ⟨xq10, hxq10⟩ : ∃ q, q = x.e.op := ⟨_, rfl⟩
      obtain ⟨xq11, hxq11⟩ : ∃ q, q = x.e.val := ⟨_, rfl⟩
      obtain ⟨xq12, hxq12⟩ : ∃ q, q = x.e.name := ⟨_, rfl⟩
      obtain ⟨xq13, hxq13⟩ : ∃ q, q = x.e.a := ⟨_, rfl⟩
      obtain ⟨xq14, hxq14⟩ : ∃ q, q = x.e.args.length := ⟨_, rfl⟩
      obtain ⟨xq15, hxq15⟩ : ∃ q, q = x.e.cap := ⟨_, rfl⟩
      simp only [← hxq0, ← hxq1, ← hxq2, ← hxq3, ← hxq4, ← hxq5, ← hxq6, ← hxq7, ← hxq8, ← hxq9, ← hxq10, ← hxq11, ← hxq12, ← hxq13, ← hxq14, ← hxq15] at k0 k1 k2 k3 k4 k5 k6 k7 k8 k9 PC
      clear hxq0 hxq1 hxq2 hxq3 hxq4 hxq5 hxq6 hxq7 hxq8 hxq9 hxq10 hxq11 hxq12 hxq13 hxq14 hxq15
      have HPC := Lib.hid PC
      have HIN := Lib.hid hin
      clear hin PC
      go_wp2_with fail
      refine (HPC.out _ (HIN.out.to ((Ext.refl _).alloc _))).mono ?_; rintro e w2 ⟨rfl, x2⟩
      have X2 := Lib.hid (HX.out.trans x2.box)
      clear x2 k0 k1 k2 k3 k4 k5 k6 k7 k8 k9
      cases B
      · go_wp2_with fail
        go_ret
        exact ⟨by rw [evNot HXJ.out HB.out.symm]; rfl, X2.out⟩
      · go_wp2_with fail
        go_roundw
        case rel => exact ⟨j + 1, by go_num, by rw [HN.out]; omega, evStep HXJ.out HB.out.symm HA.out, X2.out⟩
        case measure => simp [intOf]; omega
    · obtain rfl : j = n := by omega
      go_wp2_with fail
      go_ret
      exact ⟨by rw [evAll HN.out HA.out]; rfl, HX.out⟩
set_option maxRecDepth 100000 in
set_option maxHeartbeats 4000000 in
theorem everyFh_c (p : F → Bool) (l : List F) (n : Nat) (hn : l.length = n) (a : Option Addr) (c : Nat) (w : World) (hl : InFs w a l) (hp : ∀ (i : Nat) x, l[i]? = some x → ∀ w', InF w' x → Calls Tryd.prog 37 #[x.v] w' fun r w2 => r = .returned (.bool (p x)) ∧ Ext w' w2) :
    Calls Tryd.prog 31 #[.slice a n c, .func (.func 37) #[] #[]] w fun r w' => r = .returned (.bool (l.all p)) ∧ Ext w w' := by
  have HL := Lib.hid hl
  have HP := Lib.hid hp
  have hcap := hl.2
  rw [hn] at hcap
  have HN := Lib.hid hn
  clear hl hp hn
  go_enter Tryd.func31, Tryd.ntmps31
  go_wp2_with fail
  go_loopw [9] (EvRel p l w) (fun s _ => n - (intOf s).toNat)
  case atStart => exact ⟨0, rfl, Nat.zero_le _, fun k x hk => absurd hk (by omega), Ext.refl _⟩
  case round =>
    obtain ⟨j, rfl, hj, hall, hext⟩ := hrel
    rw [HN.out] at hj
    have HX := Lib.hid hext
    have HA := Lib.hid hall
    clear hext hall
    by_cases hlt : j < n
    · obtain ⟨x, hxj⟩ := getE (l := l) (i := j) (by rw [HN.out]; exact hlt)
      obtain ⟨⟨b, o, rfl, k0, k1, k2, k3, k4, k5, k6, k7, k8, k9⟩, hin⟩ := (HL.out.to HX.out).at hxj
      have PC := HP.out j x hxj
      unfold F.v at PC
      obtain ⟨B, hB⟩ : ∃ B, B = p x := ⟨_, rfl⟩
      rw [← hB] at PC
      have HB := Lib.hid hB
      have HXJ := Lib.hid hxj
      clear hxj hB
      obtain ⟨xq0, hxq0⟩ : ∃ q, q = x.name := ⟨_, rfl⟩
      obtain ⟨xq1, hxq1⟩ : ∃ q, q = x.pa := ⟨_, rfl⟩
      obtain ⟨xq2, hxq2⟩ : ∃ q, q = x.params.length := ⟨_, rfl⟩
      obtain ⟨xq3, hxq3⟩ : ∃ q, q = x.pc := ⟨_, rfl⟩
      obtain ⟨xq4, hxq4⟩ : ∃ q, q = x.t.k := ⟨_, rfl⟩
      obtain ⟨xq5, hxq5⟩ : ∃ q, q = x.t.b := ⟨_, rfl⟩
      obtain ⟨xq6, hxq6⟩ : ∃ q, q = x.t.n := ⟨_, rfl⟩
      obtain ⟨xq7, hxq7⟩ : ∃ q, q = x.ba := ⟨_, rfl⟩
      obtain ⟨xq8, hxq8⟩ : ∃ q, q = x.body.length := ⟨_, rfl⟩
      obtain ⟨xq9, hxq9⟩ : ∃ q, q = x.bc := ⟨_, rfl⟩
      obtain ⟨xq10, hxq10⟩ : ∃ q, q = x.e.op := ⟨_, rfl⟩
      obtain ⟨xq11, hxq11⟩ : ∃ q, q = x.e.val := ⟨_, rfl⟩
      obtain ⟨xq12, hxq12⟩ : ∃ q, q = x.e.name := ⟨_, rfl⟩
      obtain ⟨xq13, hxq13⟩ : ∃ q, q = x.e.a := ⟨_, rfl⟩
      obtain ⟨xq14, hxq14⟩ : ∃ q, q = x.e.args.length := ⟨_, rfl⟩
      obtain ⟨xq15, hxq15⟩ : ∃ q, q = x.e.cap := ⟨_, rfl⟩
      simp only [← hxq0, ← hxq1, ← hxq2, ← hxq3, ← hxq4, ← hxq5, ← hxq6, ← hxq7, ← hxq8, ← hxq9, ← hxq10, ← hxq11, ← hxq12, ← hxq13, ← hxq14, ← hxq15] at k0 k1 k2 k3 k4 k5 k6 k7 k8 k9 PC
      clear hxq0 hxq1 hxq2 hxq3 hxq4 hxq5 hxq6 hxq7 hxq8 hxq9 hxq10 hxq11 hxq12 hxq13 hxq14 hxq15
      have HPC := Lib.hid PC
      have HIN := Lib.hid hin
      clear hin PC
      go_wp2_with fail
      refine (HPC.out _ (HIN.out.to ((Ext.refl _).alloc _))).mono ?_; rintro e w2 ⟨rfl, x2⟩
      have X2 := Lib.hid (HX.out.trans x2.box)
      clear x2 k0 k1 k2 k3 k4 k5 k6 k7 k8 k9
      cases B
      · go_wp2_with fail
        go_ret
        exact ⟨by rw [evNot HXJ.out HB.out.symm]; rfl, X2.out⟩
      · go_wp2_with fail
        go_roundw
        case rel => exact ⟨j + 1, by go_num, by rw [HN.out]; omega, evStep HXJ.out HB.out.symm HA.out, X2.out⟩
        case measure => simp [intOf]; omega
    · obtain rfl : j = n := by omega
      go_wp2_with fail
      go_ret
      exact ⟨by rw [evAll HN.out HA.out]; rfl, HX.out⟩
set_option maxRecDepth 100000 in
set_option maxHeartbeats 4000000 in
theorem isParam_c (x : P) (w : World) : Calls Tryd.prog 63 #[x.v] w fun r w' => r = .returned (.bool (okP x)) ∧ Ext w w' := by
  have NC := fun w' => IsName_c x.name w'
  have TC := fun w' => isType_c x.t.k x.t.b x.t.n w'
  have EQ : okP x = (nameOk x.name && tyOk x.t.k x.t.b x.t.n) := rfl
  obtain ⟨R, hR⟩ : ∃ R, R = okP x := ⟨_, rfl⟩
  rw [← hR] at EQ ⊢
  unfold P.v
  obtain ⟨B1, hB1⟩ : ∃ q, q = nameOk x.name := ⟨_, rfl⟩
  obtain ⟨B2, hB2⟩ : ∃ q, q = tyOk x.t.k x.t.b x.t.n := ⟨_, rfl⟩
  simp only [← hB1, ← hB2] at EQ NC TC
  clear hB1 hB2
  clear hR
  obtain ⟨xq0, hxq0⟩ : ∃ q, q = x.name := ⟨_, rfl⟩
  obtain ⟨xq1, hxq1⟩ : ∃ q, q = x.t.k := ⟨_, rfl⟩
  obtain ⟨xq2, hxq2⟩ : ∃ q, q = x.t.b := ⟨_, rfl⟩
  obtain ⟨xq3, hxq3⟩ : ∃ q, q = x.t.n := ⟨_, rfl⟩
  simp only [← hxq0, ← hxq1, ← hxq2, ← hxq3] at NC TC ⊢
  clear hxq0 hxq1 hxq2 hxq3
  replace NC := Lib.hid NC
  replace TC := Lib.hid TC
  replace EQ := Lib.hid EQ
  go_enter Tryd.func63, Tryd.ntmps63
  go_wp2_with fail
  refine (NC.out _).mono ?_; rintro e1 w1 ⟨rfl, x1⟩
  have c1 : w1.cell? ⟨w.heap.size, 1, none⟩ = some (.int .i64 xq1) := x1.cell (by simp)
  have c2 : w1.cell? ⟨w.heap.size, 2, none⟩ = some (.int .i64 xq2) := x1.cell (by simp)
  have c3 : w1.cell? ⟨w.heap.size, 3, none⟩ = some (.int .i64 xq3) := x1.cell (by simp)
  have X := x1.box
  clear x1
  cases B1
  · go_wp2_with fail
    go_ret
    exact ⟨by go_light; simp [EQ.out], X⟩
  · go_wp2_with fail
    refine (TC.out _).mono ?_; rintro e2 w2 ⟨rfl, x2⟩
    clear c1 c2 c3
    replace X := X.trans x2
    clear x2
    cases B2
    · go_wp2_with fail
      go_ret
      exact ⟨by go_light; simp [EQ.out], X⟩
    · go_wp2_with fail
      go_ret
      exact ⟨by go_light; simp [EQ.out], X⟩
set_option maxRecDepth 100000 in
set_option maxHeartbeats 4000000 in
theorem isDecl_c (x : D) (w : World) : Calls Tryd.prog 34 #[x.v] w fun r w' => r = .returned (.bool (okD x)) ∧ Ext w w' := by
  have NC := fun w' => IsName_c x.name w'
  have TC := fun w' => isType_c x.t.k x.t.b x.t.n w'
  have EQ : okD x = (nameOk x.name && tyOk x.t.k x.t.b x.t.n) := rfl
  obtain ⟨R, hR⟩ : ∃ R, R = okD x := ⟨_, rfl⟩
  rw [← hR] at EQ ⊢
  unfold D.v
  obtain ⟨B1, hB1⟩ : ∃ q, q = nameOk x.name := ⟨_, rfl⟩
  obtain ⟨B2, hB2⟩ : ∃ q, q = tyOk x.t.k x.t.b x.t.n := ⟨_, rfl⟩
  simp only [← hB1, ← hB2] at EQ NC TC
  clear hB1 hB2
  clear hR
  obtain ⟨xq0, hxq0⟩ : ∃ q, q = x.pub := ⟨_, rfl⟩
  obtain ⟨xq1, hxq1⟩ : ∃ q, q = x.name := ⟨_, rfl⟩
  obtain ⟨xq2, hxq2⟩ : ∃ q, q = x.t.k := ⟨_, rfl⟩
  obtain ⟨xq3, hxq3⟩ : ∃ q, q = x.t.b := ⟨_, rfl⟩
  obtain ⟨xq4, hxq4⟩ : ∃ q, q = x.t.n := ⟨_, rfl⟩
  simp only [← hxq0, ← hxq1, ← hxq2, ← hxq3, ← hxq4] at NC TC ⊢
  clear hxq0 hxq1 hxq2 hxq3 hxq4
  replace NC := Lib.hid NC
  replace TC := Lib.hid TC
  replace EQ := Lib.hid EQ
  go_enter Tryd.func34, Tryd.ntmps34
  go_wp2_with fail
  refine (NC.out _).mono ?_; rintro e1 w1 ⟨rfl, x1⟩
  have c2 : w1.cell? ⟨w.heap.size, 2, none⟩ = some (.int .i64 xq2) := x1.cell (by simp)
  have c3 : w1.cell? ⟨w.heap.size, 3, none⟩ = some (.int .i64 xq3) := x1.cell (by simp)
  have c4 : w1.cell? ⟨w.heap.size, 4, none⟩ = some (.int .i64 xq4) := x1.cell (by simp)
  have X := x1.box
  clear x1
  cases B1
  · go_wp2_with fail
    go_ret
    exact ⟨by go_light; simp [EQ.out], X⟩
  · go_wp2_with fail
    refine (TC.out _).mono ?_; rintro e2 w2 ⟨rfl, x2⟩
    clear c2 c3 c4
    replace X := X.trans x2
    clear x2
    cases B2
    · go_wp2_with fail
      go_ret
      exact ⟨by go_light; simp [EQ.out], X⟩
    · go_wp2_with fail
      go_ret
      exact ⟨by go_light; simp [EQ.out], X⟩
set_option maxRecDepth 100000 in
set_option maxHeartbeats 4000000 in
theorem isUntyped_c (x : S) (w : World) : Calls Tryd.prog 64 #[x.v] w fun r w' => r = .returned (.bool (!x.typed && eqT x.t ⟨0, 0, 0⟩)) ∧ Ext w w' := by
  have TE := fun W => run_eqlT W x.t ⟨0, 0, 0⟩
  rw [tyZ] at TE
  unfold Ty.v at TE
  obtain ⟨B, hB⟩ : ∃ B, B = eqT x.t ⟨0, 0, 0⟩ := ⟨_, rfl⟩
  simp only [← hB] at TE ⊢
  unfold S.v
  clear hB
  obtain ⟨xq0, hxq0⟩ : ∃ q, q = x.kind := ⟨_, rfl⟩
  obtain ⟨xq1, hxq1⟩ : ∃ q, q = x.name := ⟨_, rfl⟩
  obtain ⟨xq2, hxq2⟩ : ∃ q, q = x.typed := ⟨_, rfl⟩
  obtain ⟨xq3, hxq3⟩ : ∃ q, q = x.t.k := ⟨_, rfl⟩
  obtain ⟨xq4, hxq4⟩ : ∃ q, q = x.t.b := ⟨_, rfl⟩
  obtain ⟨xq5, hxq5⟩ : ∃ q, q = x.t.n := ⟨_, rfl⟩
  obtain ⟨xq6, hxq6⟩ : ∃ q, q = x.e.op := ⟨_, rfl⟩
  obtain ⟨xq7, hxq7⟩ : ∃ q, q = x.e.val := ⟨_, rfl⟩
  obtain ⟨xq8, hxq8⟩ : ∃ q, q = x.e.name := ⟨_, rfl⟩
  obtain ⟨xq9, hxq9⟩ : ∃ q, q = x.e.a := ⟨_, rfl⟩
  obtain ⟨xq10, hxq10⟩ : ∃ q, q = x.e.args.length := ⟨_, rfl⟩
  obtain ⟨xq11, hxq11⟩ : ∃ q, q = x.e.cap := ⟨_, rfl⟩
  obtain ⟨xq12, hxq12⟩ : ∃ q, q = x.lo := ⟨_, rfl⟩
  obtain ⟨xq13, hxq13⟩ : ∃ q, q = x.hi := ⟨_, rfl⟩
  obtain ⟨xq14, hxq14⟩ : ∃ q, q = x.a := ⟨_, rfl⟩
  obtain ⟨xq15, hxq15⟩ : ∃ q, q = x.body.length := ⟨_, rfl⟩
  obtain ⟨xq16, hxq16⟩ : ∃ q, q = x.cap := ⟨_, rfl⟩
  simp only [← hxq0, ← hxq1, ← hxq2, ← hxq3, ← hxq4, ← hxq5, ← hxq6, ← hxq7, ← hxq8, ← hxq9, ← hxq10, ← hxq11, ← hxq12, ← hxq13, ← hxq14, ← hxq15, ← hxq16] at TE ⊢
  clear hxq0 hxq1 hxq2 hxq3 hxq4 hxq5 hxq6 hxq7 hxq8 hxq9 hxq10 hxq11 hxq12 hxq13 hxq14 hxq15 hxq16
  cases xq2
  · go_enter Tryd.func64, Tryd.ntmps64
    go_wp2_with fail
    go_ret
    exact ⟨by go_light; simp, by first | exact Ext.refl _ | exact (Ext.refl _).alloc _⟩
  · go_enter Tryd.func64, Tryd.ntmps64
    go_wp2_with fail
    go_ret
    exact ⟨by go_light; simp, by first | exact Ext.refl _ | exact (Ext.refl _).alloc _⟩
set_option maxRecDepth 100000 in
set_option maxHeartbeats 4000000 in
theorem isEmpty_c (x : E) (w : World) : Calls Tryd.prog 65 #[x.v] w fun r w' => r = .returned (.bool (emE x)) ∧ Ext w w' := by
  have EQ : emE x = (decide (x.op = 0) && (decide (x.val = 0) && (decide (x.name.size = 0) && decide (x.args.length = 0)))) := rfl
  obtain ⟨R, hR⟩ : ∃ R, R = emE x := ⟨_, rfl⟩
  rw [← hR] at EQ ⊢
  have t0 := beqD x.op 0
  have t1 := beqN x.val
  have t2 := toL_empty x.name
  have t3 := beqN x.args.length
  unfold E.v
  obtain ⟨B0, hB0⟩ : ∃ q, q = decide (x.op = 0) := ⟨_, rfl⟩
  obtain ⟨B1, hB1⟩ : ∃ q, q = decide (x.val = 0) := ⟨_, rfl⟩
  obtain ⟨B2, hB2⟩ : ∃ q, q = decide (x.name.size = 0) := ⟨_, rfl⟩
  obtain ⟨B3, hB3⟩ : ∃ q, q = decide (x.args.length = 0) := ⟨_, rfl⟩
  simp only [← hB0, ← hB1, ← hB2, ← hB3] at EQ t0 t1 t2 t3
  clear hB0 hB1 hB2 hB3
  clear hR
  obtain ⟨xq0, hxq0⟩ : ∃ q, q = x.op := ⟨_, rfl⟩
  obtain ⟨xq1, hxq1⟩ : ∃ q, q = x.val := ⟨_, rfl⟩
  obtain ⟨xq2, hxq2⟩ : ∃ q, q = x.name := ⟨_, rfl⟩
  obtain ⟨xq3, hxq3⟩ : ∃ q, q = x.a := ⟨_, rfl⟩
  obtain ⟨xq4, hxq4⟩ : ∃ q, q = x.args.length := ⟨_, rfl⟩
  obtain ⟨xq5, hxq5⟩ : ∃ q, q = x.cap := ⟨_, rfl⟩
  simp only [← hxq0, ← hxq1, ← hxq2, ← hxq3, ← hxq4, ← hxq5] at t0 t1 t2 t3 ⊢
  clear hxq0 hxq1 hxq2 hxq3 hxq4 hxq5
  replace EQ := Lib.hid EQ
  cases B0
  · go_enter Tryd.func65, Tryd.ntmps65
    go_wp2_with fail
    go_ret
    exact ⟨by go_light; simp [EQ.out], by first | exact Ext.refl _ | exact (Ext.refl _).alloc _⟩
  · cases B1
    · go_enter Tryd.func65, Tryd.ntmps65
      go_wp2_with fail
      go_ret
      exact ⟨by go_light; simp [EQ.out], by first | exact Ext.refl _ | exact (Ext.refl _).alloc _⟩
    · cases B2
      · go_enter Tryd.func65, Tryd.ntmps65
        go_wp2_with fail
        go_ret
        exact ⟨by go_light; simp [EQ.out], by first | exact Ext.refl _ | exact (Ext.refl _).alloc _⟩
      · cases B3
        · go_enter Tryd.func65, Tryd.ntmps65
          go_wp2_with fail
          go_ret
          exact ⟨by go_light; simp [EQ.out], by first | exact Ext.refl _ | exact (Ext.refl _).alloc _⟩
        · go_enter Tryd.func65, Tryd.ntmps65
          go_wp2_with fail
          go_ret
          exact ⟨by go_light; simp [EQ.out], by first | exact Ext.refl _ | exact (Ext.refl _).alloc _⟩
theorem isLoop_c (n : Int) (w : World) : Calls Tryd.prog 66 #[.int .i64 n] w fun r w' => r = .returned (.bool (lpN n)) ∧ Ext w w' := by
  by_cases h : 0 ≤ n
  · have t : decide (0 ≤ n) = true := decide_eq_true h
    have EQ : lpN n = decide (n ≤ 1000000) := by unfold lpN; rw [t]; rfl
    rw [EQ]
    clear EQ h
    go_enter Tryd.func66, Tryd.ntmps66
    go_wp2_with fail
    go_ret
    exact ⟨rfl, Ext.refl _⟩
  · have t : decide (0 ≤ n) = false := decide_eq_false h
    have EQ : lpN n = false := by unfold lpN; rw [t]; rfl
    rw [EQ]
    clear EQ h
    go_enter Tryd.func66, Tryd.ntmps66
    go_wp2_with fail
    go_ret
    exact ⟨rfl, Ext.refl _⟩
theorem RSmall_c (n : Int) (w : World) : Calls Tryd.prog 91 #[.int .i64 n] w fun r w' => r = .returned (.bool (lpN n)) ∧ Ext w w' := by
  by_cases h : 0 ≤ n
  · have t : decide (0 ≤ n) = true := decide_eq_true h
    have EQ : lpN n = decide (n ≤ 1000000) := by unfold lpN; rw [t]; rfl
    rw [EQ]
    clear EQ h
    go_enter Tryd.func91, Tryd.ntmps91
    go_wp2_with fail
    go_ret
    exact ⟨rfl, Ext.refl _⟩
  · have t : decide (0 ≤ n) = false := decide_eq_false h
    have EQ : lpN n = false := by unfold lpN; rw [t]; rfl
    rw [EQ]
    clear EQ h
    go_enter Tryd.func91, Tryd.ntmps91
    go_wp2_with fail
    go_ret
    exact ⟨rfl, Ext.refl _⟩
end Go.Proofs.YtcheigpejbmaoaaDoor
