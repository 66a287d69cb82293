/- Equality of lists: slices.EqualFunc and slices.Equal. Printed by gen/ast3.py. -/
import Derived.Test.YtcheigpejbmaoaaDoorAx1
namespace Go.Proofs.YtcheigpejbmaoaaDoor
open Go.RowKit
def eqL {T : Type} (p : T → T → Bool) (l l' : List T) : Bool := decide (l.length = l'.length) && (l.zip l').all fun z => p z.1 z.2
set_option maxRecDepth 100000 in
set_option maxHeartbeats 4000000 in
theorem EqFE_c (p : E → E → Bool) (l l' : List E) (n n' : Nat) (hn : l.length = n) (hn' : l'.length = n') (a a' : Option Addr) (c c' : Nat) (w : World) (hl : InL w a l) (hl' : InL w a' l')
    (hp : ∀ (i : Nat) x y, l[i]? = some x → l'[i]? = some y → ∀ w', InE w' x → InE w' y → Calls Tryd.prog 59 #[x.v, y.v] w' fun r w2 => r = .returned (.bool (p x y)) ∧ Ext w' w2) :
    Calls Tryd.prog 83 #[.slice a n c, .slice a' n' c', .func (.func 59) #[] #[]] w fun r w' => r = .returned (.bool (eqL p l l')) ∧ Ext w w' := by
  have HL := Lib.hid hl
  have HL' := Lib.hid hl'
  have HP := Lib.hid hp
  have hcap := hl.2
  have hcap' := hl'.2
  rw [hn] at hcap
  rw [hn'] at hcap'
  by_cases hnn : n = n'
  · subst hnn
    have EL : Hid (eqL p l l' = (l.zip l').all fun z => p z.1 z.2) := Lib.hid (by unfold eqL; rw [hn, hn', decide_eq_true rfl, Bool.true_and])
    have ZL : Hid ((l.zip l').length = n) := Lib.hid (by rw [List.length_zip, hn, hn', Nat.min_self])
    rw [EL.out]
    have HN := Lib.hid hn
    have HN' := Lib.hid hn'
    clear hl hl' hp hn hn' EL
    go_enter Tryd.func83, Tryd.ntmps83
    go_wp2_with fail
    go_loopw [17] (EvRel (fun z => p z.1 z.2) (l.zip l') w) (fun s _ => n - (intOf s).toNat)
    case atStart => exact ⟨0, rfl, Nat.zero_le _, fun k x hk => absurd hk (by omega), Ext.refl _⟩
    case round =>
      obtain ⟨j, rfl, hj, hall, hext⟩ := hrel
      rw [ZL.out] at hj
      have HX := Lib.hid hext
      have HA := Lib.hid hall
      clear hext hall
      by_cases hlt : j < n
      · obtain ⟨x, hxj⟩ := getE (l := l) (i := j) (by rw [HN.out]; exact hlt)
        obtain ⟨y, hyj⟩ := getE (l := l') (i := j) (by rw [HN'.out]; exact hlt)
        have HZ : Hid ((l.zip l')[j]? = some (x, y)) := Lib.hid (by rw [List.getElem?_zip_eq_some]; exact ⟨hxj, hyj⟩)
        obtain ⟨⟨b, o, rfl, k0, k1, k2, k3⟩, hin⟩ := (HL.out.to HX.out).at hxj
        obtain ⟨⟨b', o', rfl, m0, m1, m2, m3⟩, hin'⟩ := (HL'.out.to HX.out).at hyj
        have PC := HP.out j x y hxj hyj
        obtain ⟨B, hB⟩ : ∃ B, B = p x y := ⟨_, rfl⟩
        rw [← hB] at PC
        have HB := Lib.hid hB
        have HIN := Lib.hid hin
        have HIN' := Lib.hid hin'
        clear hxj hyj hB hin hin'
        unfold E.v at PC
        obtain ⟨xq0, hxq0⟩ : ∃ q, q = x.op := ⟨_, rfl⟩
        obtain ⟨xq1, hxq1⟩ : ∃ q, q = x.val := ⟨_, rfl⟩
        obtain ⟨xq2, hxq2⟩ : ∃ q, q = x.name := ⟨_, rfl⟩
        obtain ⟨xq3, hxq3⟩ : ∃ q, q = x.a := ⟨_, rfl⟩
        obtain ⟨xq4, hxq4⟩ : ∃ q, q = x.args.length := ⟨_, rfl⟩
        obtain ⟨xq5, hxq5⟩ : ∃ q, q = x.cap := ⟨_, rfl⟩
        simp only [← hxq0, ← hxq1, ← hxq2, ← hxq3, ← hxq4, ← hxq5] at k0 k1 k2 k3 PC
        clear hxq0 hxq1 hxq2 hxq3 hxq4 hxq5
        obtain ⟨yq0, hyq0⟩ : ∃ q, q = y.op := ⟨_, rfl⟩
        obtain ⟨yq1, hyq1⟩ : ∃ q, q = y.val := ⟨_, rfl⟩
        obtain ⟨yq2, hyq2⟩ : ∃ q, q = y.name := ⟨_, rfl⟩
        obtain ⟨yq3, hyq3⟩ : ∃ q, q = y.a := ⟨_, rfl⟩
        obtain ⟨yq4, hyq4⟩ : ∃ q, q = y.args.length := ⟨_, rfl⟩
        obtain ⟨yq5, hyq5⟩ : ∃ q, q = y.cap := ⟨_, rfl⟩
        simp only [← hyq0, ← hyq1, ← hyq2, ← hyq3, ← hyq4, ← hyq5] at m0 m1 m2 m3 PC
        clear hyq0 hyq1 hyq2 hyq3 hyq4 hyq5
        have HPC := Lib.hid PC
        clear PC
        have EB := (Ext.refl wr).alloc (.cells #[.int .i64 xq0, .int .u64 (xq1 : Int), .string xq2, .slice xq3 xq4 xq5] 44)
        replace m0 := EB.cell m0
        replace m1 := EB.cell m1
        replace m2 := EB.cell m2
        replace m3 := EB.cell m3
        clear EB
        go_wp2_with fail
        refine (HPC.out _ (HIN.out.to (((Ext.refl _).alloc _).alloc _)) (HIN'.out.to (((Ext.refl _).alloc _).alloc _))).mono ?_; rintro e w2 ⟨rfl, x2⟩
        have X2 := Lib.hid (HX.out.trans x2.box.box)
        clear x2 k0 k1 k2 k3 m0 m1 m2 m3
        cases B
        · go_wp2_with fail
          go_ret
          exact ⟨by rw [evNot HZ.out HB.out.symm]; rfl, X2.out⟩
        · go_wp2_with fail
          go_roundw
          case rel => exact ⟨j + 1, by go_num, by rw [ZL.out]; omega, evStep HZ.out HB.out.symm HA.out, X2.out⟩
          case measure => simp [intOf]; omega
      · obtain rfl : j = n := by omega
        go_wp2_with fail
        go_ret
        exact ⟨by rw [evAll ZL.out HA.out]; rfl, HX.out⟩
  · have EL : Hid (eqL p l l' = false) := Lib.hid (by unfold eqL; rw [hn, hn', decide_eq_false hnn, Bool.false_and])
    have t1 : ((n : Int) == (n' : Int)) = false := beq_eq_false_iff_ne.2 (by omega)
    rw [EL.out]
    clear hl hl' hp hn hn' EL HL HL' HP hcap hcap' hnn
    go_enter Tryd.func83, Tryd.ntmps83
    go_wp2_with fail
    go_ret
    exact ⟨rfl, Ext.refl _⟩
set_option maxRecDepth 100000 in
set_option maxHeartbeats 4000000 in
theorem EqFS_c (p : S → S → Bool) (l l' : List S) (n n' : Nat) (hn : l.length = n) (hn' : l'.length = n') (a a' : Option Addr) (c c' : Nat) (w : World) (hl : InB w a l) (hl' : InB w a' l')
    (hp : ∀ (i : Nat) x y, l[i]? = some x → l'[i]? = some y → ∀ w', InS w' x → InS w' y → Calls Tryd.prog 28 #[x.v, y.v] w' fun r w2 => r = .returned (.bool (p x y)) ∧ Ext w' w2) :
    Calls Tryd.prog 27 #[.slice a n c, .slice a' n' c', .func (.func 28) #[] #[]] w fun r w' => r = .returned (.bool (eqL p l l')) ∧ Ext w w' := by
  have HL := Lib.hid hl
  have HL' := Lib.hid hl'
  have HP := Lib.hid hp
  have hcap := hl.2
  have hcap' := hl'.2
  rw [hn] at hcap
  rw [hn'] at hcap'
  by_cases hnn : n = n'
  · subst hnn
    have EL : Hid (eqL p l l' = (l.zip l').all fun z => p z.1 z.2) := Lib.hid (by unfold eqL; rw [hn, hn', decide_eq_true rfl, Bool.true_and])
    have ZL : Hid ((l.zip l').length = n) := Lib.hid (by rw [List.length_zip, hn, hn', Nat.min_self])
    rw [EL.out]
    have HN := Lib.hid hn
    have HN' := Lib.hid hn'
    clear hl hl' hp hn hn' EL
    go_enter Tryd.func27, Tryd.ntmps27
    go_wp2_with fail
    go_loopw [17] (EvRel (fun z => p z.1 z.2) (l.zip l') w) (fun s _ => n - (intOf s).toNat)
    case atStart => exact ⟨0, rfl, Nat.zero_le _, fun k x hk => absurd hk (by omega), Ext.refl _⟩
    case round =>
      obtain ⟨j, rfl, hj, hall, hext⟩ := hrel
      rw [ZL.out] at hj
      have HX := Lib.hid hext
      have HA := Lib.hid hall
      clear hext hall
      by_cases hlt : j < n
      · obtain ⟨x, hxj⟩ := getE (l := l) (i := j) (by rw [HN.out]; exact hlt)
        obtain ⟨y, hyj⟩ := getE (l := l') (i := j) (by rw [HN'.out]; exact hlt)
        have HZ : Hid ((l.zip l')[j]? = some (x, y)) := Lib.hid (by rw [List.getElem?_zip_eq_some]; exact ⟨hxj, hyj⟩)
        obtain ⟨⟨b, o, rfl, k0, k1, k2, k3, k4, k5, k6, k7, k8, k9, k10, k11, k12⟩, hin⟩ := (HL.out.to HX.out).at hxj
        obtain ⟨⟨b', o', rfl, m0, m1, m2, m3, m4, m5, m6, m7, m8, m9, m10, m11, m12⟩, hin'⟩ := (HL'.out.to HX.out).at hyj
        have PC := HP.out j x y hxj hyj
        obtain ⟨B, hB⟩ : ∃ B, B = p x y := ⟨_, rfl⟩
        rw [← hB] at PC
        have HB := Lib.hid hB
        have HIN := Lib.hid hin
        have HIN' := Lib.hid hin'
        clear hxj hyj hB hin hin'
        unfold S.v at PC
        obtain ⟨xq0, hxq0⟩ : ∃ q, q = x.kind := ⟨_, rfl⟩
        obtain ⟨xq1, hxq1⟩ : ∃ q, q = x.name := ⟨_, rfl⟩
        obtain ⟨xq2, hxq2⟩ : ∃ q, q = x.typed := ⟨_, rfl⟩
        obtain ⟨xq3, hxq3⟩ : ∃ q, q = x.t.k := ⟨_, rfl⟩
        obtain ⟨xq4, hxq4⟩ : ∃ q, q = x.t.b := ⟨_, rfl⟩
        obtain ⟨xq5, hxq5⟩ : ∃ q, q = x.t.n := ⟨_, rfl⟩
        obtain ⟨xq6, hxq6⟩ : ∃ q, q = x.e.op := ⟨_, rfl⟩
        obtain ⟨xq7, hxq7⟩ : ∃ q, q = x.e.val := ⟨_, rfl⟩
        obtain ⟨xq8, hxq8⟩ : ∃ q, q = x.e.name := ⟨_, rfl⟩
        obtain ⟨xq9, hxq9⟩ : ∃ q, q = x.e.a := ⟨_, rfl⟩
        obtain ⟨xq10, hxq10⟩ : ∃ q, q = x.e.args.length := ⟨_, rfl⟩
        obtain ⟨xq11, hxq11⟩ : ∃ q, q = x.e.cap := ⟨_, rfl⟩
        obtain ⟨xq12, hxq12⟩ : ∃ q, q = x.lo := ⟨_, rfl⟩
        obtain ⟨xq13, hxq13⟩ : ∃ q, q = x.hi := ⟨_, rfl⟩
        obtain ⟨xq14, hxq14⟩ : ∃ q, q = x.a := ⟨_, rfl⟩
        obtain ⟨xq15, hxq15⟩ : ∃ q, q = x.body.length := ⟨_, rfl⟩
        obtain ⟨xq16, hxq16⟩ : ∃ q, q = x.cap := ⟨_, rfl⟩
        simp only [← hxq0, ← hxq1, ← hxq2, ← hxq3, ← hxq4, ← hxq5, ← hxq6, ← hxq7, ← hxq8, ← hxq9, ← hxq10, ← hxq11, ← hxq12, ← hxq13, ← hxq14, ← hxq15, ← hxq16] at k0 k1 k2 k3 k4 k5 k6 k7 k8 k9 k10 k11 k12 PC
        clear hxq0 hxq1 hxq2 hxq3 hxq4 hxq5 hxq6 hxq7 hxq8 hxq9 hxq10 hxq11 hxq12 hxq13 hxq14 hxq15 hxq16
        obtain ⟨yq0, hyq0⟩ : ∃ q, q = y.kind := ⟨_, rfl⟩
        obtain ⟨yq1, hyq1⟩ : ∃ q, q = y.name := ⟨_, rfl⟩
        obtain ⟨yq2, hyq2⟩ : ∃ q, q = y.typed := ⟨_, rfl⟩
        obtain ⟨yq3, hyq3⟩ : ∃ q, q = y.t.k := ⟨_, rfl⟩
        obtain ⟨yq4, hyq4⟩ : ∃ q, q = y.t.b := ⟨_, rfl⟩
        obtain ⟨yq5, hyq5⟩ : ∃ q, q = y.t.n := ⟨_, rfl⟩
        obtain ⟨yq6, hyq6⟩ : ∃ q, q = y.e.op := ⟨_, rfl⟩
        obtain ⟨yq7, hyq7⟩ : ∃ q, q = y.e.val := ⟨_, rfl⟩
        obtain ⟨yq8, hyq8⟩ : ∃ q, q = y.e.name := ⟨_, rfl⟩
        obtain ⟨yq9, hyq9⟩ : ∃ q, q = y.e.a := ⟨_, rfl⟩
        obtain ⟨yq10, hyq10⟩ : ∃ q, q = y.e.args.length := ⟨_, rfl⟩
        obtain ⟨yq11, hyq11⟩ : ∃ q, q = y.e.cap := ⟨_, rfl⟩
        obtain ⟨yq12, hyq12⟩ : ∃ q, q = y.lo := ⟨_, rfl⟩
        obtain ⟨yq13, hyq13⟩ : ∃ q, q = y.hi := ⟨_, rfl⟩
        obtain ⟨yq14, hyq14⟩ : ∃ q, q = y.a := ⟨_, rfl⟩
        obtain ⟨yq15, hyq15⟩ : ∃ q, q = y.body.length := ⟨_, rfl⟩
        obtain ⟨yq16, hyq16⟩ : ∃ q, q = y.cap := ⟨_, rfl⟩
        simp only [← hyq0, ← hyq1, ← hyq2, ← hyq3, ← hyq4, ← hyq5, ← hyq6, ← hyq7, ← hyq8, ← hyq9, ← hyq10, ← hyq11, ← hyq12, ← hyq13, ← hyq14, ← hyq15, ← hyq16] at m0 m1 m2 m3 m4 m5 m6 m7 m8 m9 m10 m11 m12 PC
        clear hyq0 hyq1 hyq2 hyq3 hyq4 hyq5 hyq6 hyq7 hyq8 hyq9 hyq10 hyq11 hyq12 hyq13 hyq14 hyq15 hyq16
        have HPC := Lib.hid PC
        clear PC
        have EB := (Ext.refl wr).alloc (.cells #[.int .i64 xq0, .string xq1, .bool xq2, .int .i64 xq3, .int .i64 xq4, .int .i64 xq5, .int .i64 xq6, .int .u64 (xq7 : Int), .string xq8, .slice xq9 xq10 xq11, .int .i64 xq12, .int .i64 xq13, .slice xq14 xq15 xq16] 61)
        replace m0 := EB.cell m0
        replace m1 := EB.cell m1
        replace m2 := EB.cell m2
        replace m3 := EB.cell m3
        replace m4 := EB.cell m4
        replace m5 := EB.cell m5
        replace m6 := EB.cell m6
        replace m7 := EB.cell m7
        replace m8 := EB.cell m8
        replace m9 := EB.cell m9
        replace m10 := EB.cell m10
        replace m11 := EB.cell m11
        replace m12 := EB.cell m12
        clear EB
        go_wp2_with fail
        refine (HPC.out _ (HIN.out.to (((Ext.refl _).alloc _).alloc _)) (HIN'.out.to (((Ext.refl _).alloc _).alloc _))).mono ?_; rintro e w2 ⟨rfl, x2⟩
        have X2 := Lib.hid (HX.out.trans x2.box.box)
        clear x2 k0 k1 k2 k3 k4 k5 k6 k7 k8 k9 k10 k11 k12 m0 m1 m2 m3 m4 m5 m6 m7 m8 m9 m10 m11 m12
        cases B
        · go_wp2_with fail
          go_ret
          exact ⟨by rw [evNot HZ.out HB.out.symm]; rfl, X2.out⟩
        · go_wp2_with fail
          go_roundw
          case rel => exact ⟨j + 1, by go_num, by rw [ZL.out]; omega, evStep HZ.out HB.out.symm HA.out, X2.out⟩
          case measure => simp [intOf]; omega
      · obtain rfl : j = n := by omega
        go_wp2_with fail
        go_ret
        exact ⟨by rw [evAll ZL.out HA.out]; rfl, HX.out⟩
  · have EL : Hid (eqL p l l' = false) := Lib.hid (by unfold eqL; rw [hn, hn', decide_eq_false hnn, Bool.false_and])
    have t1 : ((n : Int) == (n' : Int)) = false := beq_eq_false_iff_ne.2 (by omega)
    rw [EL.out]
    clear hl hl' hp hn hn' EL HL HL' HP hcap hcap' hnn
    go_enter Tryd.func27, Tryd.ntmps27
    go_wp2_with fail
    go_ret
    exact ⟨rfl, Ext.refl _⟩
set_option maxRecDepth 100000 in
set_option maxHeartbeats 4000000 in
theorem EqFF_c (p : F → F → Bool) (l l' : List F) (n n' : Nat) (hn : l.length = n) (hn' : l'.length = n') (a a' : Option Addr) (c c' : Nat) (w : World) (hl : InFs w a l) (hl' : InFs w a' l')
    (hp : ∀ (i : Nat) x y, l[i]? = some x → l'[i]? = some y → ∀ w', InF w' x → InF w' y → Calls Tryd.prog 25 #[x.v, y.v] w' fun r w2 => r = .returned (.bool (p x y)) ∧ Ext w' w2) :
    Calls Tryd.prog 24 #[.slice a n c, .slice a' n' c', .func (.func 25) #[] #[]] w fun r w' => r = .returned (.bool (eqL p l l')) ∧ Ext w w' := by
  have HL := Lib.hid hl
  have HL' := Lib.hid hl'
  have HP := Lib.hid hp
  have hcap := hl.2
  have hcap' := hl'.2
  rw [hn] at hcap
  rw [hn'] at hcap'
  by_cases hnn : n = n'
  · subst hnn
    have EL : Hid (eqL p l l' = (l.zip l').all fun z => p z.1 z.2) := Lib.hid (by unfold eqL; rw [hn, hn', decide_eq_true rfl, Bool.true_and])
    have ZL : Hid ((l.zip l').length = n) := Lib.hid (by rw [List.length_zip, hn, hn', Nat.min_self])
    rw [EL.out]
    have HN := Lib.hid hn
    have HN' := Lib.hid hn'
    clear hl hl' hp hn hn' EL
    go_enter Tryd.func24, Tryd.ntmps24
    go_wp2_with fail
    go_loopw [17] (EvRel (fun z => p z.1 z.2) (l.zip l') w) (fun s _ => n - (intOf s).toNat)
    case atStart => exact ⟨0, rfl, Nat.zero_le _, fun k x hk => absurd hk (by omega), Ext.refl _⟩
    case round =>
      obtain ⟨j, rfl, hj, hall, hext⟩ := hrel
      rw [ZL.out] at hj
      have HX := Lib.hid hext
      have HA := Lib.hid hall
      clear hext hall
      by_cases hlt : j < n
      · obtain ⟨x, hxj⟩ := getE (l := l) (i := j) (by rw [HN.out]; exact hlt)
        obtain ⟨y, hyj⟩ := getE (l := l') (i := j) (by rw [HN'.out]; exact hlt)
        have HZ : Hid ((l.zip l')[j]? = some (x, y)) := Lib.hid (by rw [List.getElem?_zip_eq_some]; exact ⟨hxj, hyj⟩)
        obtain ⟨⟨b, o, rfl, k0, k1, k2, k3, k4, k5, k6, k7, k8, k9⟩, hin⟩ := (HL.out.to HX.out).at hxj
        obtain ⟨⟨b', o', rfl, m0, m1, m2, m3, m4, m5, m6, m7, m8, m9⟩, hin'⟩ := (HL'.out.to HX.out).at hyj
        have PC := HP.out j x y hxj hyj
        obtain ⟨B, hB⟩ : ∃ B, B = p x y := ⟨_, rfl⟩
        rw [← hB] at PC
        have HB := Lib.hid hB
        have HIN := Lib.hid hin
        have HIN' := Lib.hid hin'
        clear hxj hyj hB hin hin'
        unfold F.v at PC
        obtain ⟨xq0, hxq0⟩ : ∃ q, q = x.name := ⟨_, rfl⟩
        obtain ⟨xq1, hxq1⟩ : ∃ q, q = x.pa := ⟨_, rfl⟩
        obtain ⟨xq2, hxq2⟩ : ∃ q, q = x.params.length := ⟨_, rfl⟩
        obtain ⟨xq3, hxq3⟩ : ∃ q, q = x.pc := ⟨_, rfl⟩
        obtain ⟨xq4, hxq4⟩ : ∃ q, q = x.t.k := ⟨_, rfl⟩
        obtain ⟨xq5, hxq5⟩ : ∃ q, q = x.t.b := ⟨_, rfl⟩
        obtain ⟨xq6, hxq6⟩ : ∃ q, q = x.t.n := ⟨_, rfl⟩
        obtain ⟨xq7, hxq7⟩ : ∃ q, q = x.ba := ⟨_, rfl⟩
        obtain ⟨xq8, hxq8⟩ : ∃ q, q = x.body.length := ⟨_, rfl⟩
        obtain ⟨xq9, hxq9⟩ : ∃ q, q = x.bc := ⟨_, rfl⟩
        obtain ⟨xq10, hxq10⟩ : ∃ q, q = x.e.op := ⟨_, rfl⟩
        obtain ⟨xq11, hxq11⟩ : ∃ q, q = x.e.val := ⟨_, rfl⟩
        obtain ⟨xq12, hxq12⟩ : ∃ q, q = x.e.name := ⟨_, rfl⟩
        obtain ⟨xq13, hxq13⟩ : ∃ q, q = x.e.a := ⟨_, rfl⟩
        obtain ⟨xq14, hxq14⟩ : ∃ q, q = x.e.args.length := ⟨_, rfl⟩
        obtain ⟨xq15, hxq15⟩ : ∃ q, q = x.e.cap := ⟨_, rfl⟩
        simp only [← hxq0, ← hxq1, ← hxq2, ← hxq3, ← hxq4, ← hxq5, ← hxq6, ← hxq7, ← hxq8, ← hxq9, ← hxq10, ← hxq11, ← hxq12, ← hxq13, ← hxq14, ← hxq15] at k0 k1 k2 k3 k4 k5 k6 k7 k8 k9 PC
        clear hxq0 hxq1 hxq2 hxq3 hxq4 hxq5 hxq6 hxq7 hxq8 hxq9 hxq10 hxq11 hxq12 hxq13 hxq14 hxq15
        obtain ⟨yq0, hyq0⟩ : ∃ q, q = y.name := ⟨_, rfl⟩
        obtain ⟨yq1, hyq1⟩ : ∃ q, q = y.pa := ⟨_, rfl⟩
        obtain ⟨yq2, hyq2⟩ : ∃ q, q = y.params.length := ⟨_, rfl⟩
        obtain ⟨yq3, hyq3⟩ : ∃ q, q = y.pc := ⟨_, rfl⟩
        obtain ⟨yq4, hyq4⟩ : ∃ q, q = y.t.k := ⟨_, rfl⟩
        obtain ⟨yq5, hyq5⟩ : ∃ q, q = y.t.b := ⟨_, rfl⟩
        obtain ⟨yq6, hyq6⟩ : ∃ q, q = y.t.n := ⟨_, rfl⟩
        obtain ⟨yq7, hyq7⟩ : ∃ q, q = y.ba := ⟨_, rfl⟩
        obtain ⟨yq8, hyq8⟩ : ∃ q, q = y.body.length := ⟨_, rfl⟩
        obtain ⟨yq9, hyq9⟩ : ∃ q, q = y.bc := ⟨_, rfl⟩
        obtain ⟨yq10, hyq10⟩ : ∃ q, q = y.e.op := ⟨_, rfl⟩
        obtain ⟨yq11, hyq11⟩ : ∃ q, q = y.e.val := ⟨_, rfl⟩
        obtain ⟨yq12, hyq12⟩ : ∃ q, q = y.e.name := ⟨_, rfl⟩
        obtain ⟨yq13, hyq13⟩ : ∃ q, q = y.e.a := ⟨_, rfl⟩
        obtain ⟨yq14, hyq14⟩ : ∃ q, q = y.e.args.length := ⟨_, rfl⟩
        obtain ⟨yq15, hyq15⟩ : ∃ q, q = y.e.cap := ⟨_, rfl⟩
        simp only [← hyq0, ← hyq1, ← hyq2, ← hyq3, ← hyq4, ← hyq5, ← hyq6, ← hyq7, ← hyq8, ← hyq9, ← hyq10, ← hyq11, ← hyq12, ← hyq13, ← hyq14, ← hyq15] at m0 m1 m2 m3 m4 m5 m6 m7 m8 m9 PC
        clear hyq0 hyq1 hyq2 hyq3 hyq4 hyq5 hyq6 hyq7 hyq8 hyq9 hyq10 hyq11 hyq12 hyq13 hyq14 hyq15
        have HPC := Lib.hid PC
        clear PC
        have EB := (Ext.refl wr).alloc (.cells #[.string xq0, .slice xq1 xq2 xq3, .int .i64 xq4, .int .i64 xq5, .int .i64 xq6, .slice xq7 xq8 xq9, .int .i64 xq10, .int .u64 (xq11 : Int), .string xq12, .slice xq13 xq14 xq15] 50)
        replace m0 := EB.cell m0
        replace m1 := EB.cell m1
        replace m2 := EB.cell m2
        replace m3 := EB.cell m3
        replace m4 := EB.cell m4
        replace m5 := EB.cell m5
        replace m6 := EB.cell m6
        replace m7 := EB.cell m7
        replace m8 := EB.cell m8
        replace m9 := EB.cell m9
        clear EB
        go_wp2_with fail
        refine (HPC.out _ (HIN.out.to (((Ext.refl _).alloc _).alloc _)) (HIN'.out.to (((Ext.refl _).alloc _).alloc _))).mono ?_; rintro e w2 ⟨rfl, x2⟩
        have X2 := Lib.hid (HX.out.trans x2.box.box)
        clear x2 k0 k1 k2 k3 k4 k5 k6 k7 k8 k9 m0 m1 m2 m3 m4 m5 m6 m7 m8 m9
        cases B
        · go_wp2_with fail
          go_ret
          exact ⟨by rw [evNot HZ.out HB.out.symm]; rfl, X2.out⟩
        · go_wp2_with fail
          go_roundw
          case rel => exact ⟨j + 1, by go_num, by rw [ZL.out]; omega, evStep HZ.out HB.out.symm HA.out, X2.out⟩
          case measure => simp [intOf]; omega
      · obtain rfl : j = n := by omega
        go_wp2_with fail
        go_ret
        exact ⟨by rw [evAll ZL.out HA.out]; rfl, HX.out⟩
  · have EL : Hid (eqL p l l' = false) := Lib.hid (by unfold eqL; rw [hn, hn', decide_eq_false hnn, Bool.false_and])
    have t1 : ((n : Int) == (n' : Int)) = false := beq_eq_false_iff_ne.2 (by omega)
    rw [EL.out]
    clear hl hl' hp hn hn' EL HL HL' HP hcap hcap' hnn
    go_enter Tryd.func24, Tryd.ntmps24
    go_wp2_with fail
    go_ret
    exact ⟨rfl, Ext.refl _⟩
end Go.Proofs.YtcheigpejbmaoaaDoor
