/- Equality of types, parameters, declarations; slices.Equal. Printed by gen/ast4.py. -/
import Derived.Test.YtcheigpejbmaoaaDoorAx2
namespace Go.Proofs.YtcheigpejbmaoaaDoor
open Go.RowKit
def eqT (s t : Ty) : Bool := (s.k == t.k) && (s.b == t.b) && (s.n == t.n)
def eqP (x y : P) : Bool := strEq x.name y.name && eqT x.t y.t
def eqD (x y : D) : Bool := (x.pub == y.pub) && strEq x.name y.name && eqT x.t y.t
def Ty.v (t : Ty) : Value := .agg #[.int .i64 t.k, .int .i64 t.b, .int .i64 t.n]
theorem toL_prop (s t : ByteArray) : (s.toList = t.toList) ↔ strEq s t = true := by rw [← toL_eq]; simp
theorem run_eqlT (w : World) (x y : Ty) : (binOp .eql 33 x.v y.v).run Tryd.prog w = .ok (.bool (eqT x y)) w := by
  obtain ⟨k, b, n⟩ := x
  obtain ⟨k', b', n'⟩ := y
  unfold Ty.v eqT
  go_simp
  by_cases h1 : k = k' <;> by_cases h2 : b = b' <;> by_cases h3 : n = n' <;> simp [h1, h2, h3]
theorem run_neqT (w : World) (x y : Ty) : (binOp .neq 33 x.v y.v).run Tryd.prog w = .ok (.bool (!eqT x y)) w := by
  obtain ⟨k, b, n⟩ := x
  obtain ⟨k', b', n'⟩ := y
  unfold Ty.v eqT
  go_simp
  by_cases h1 : k = k' <;> by_cases h2 : b = b' <;> by_cases h3 : n = n' <;> simp [h1, h2, h3]
theorem run_neqP (w : World) (x y : P) : (binOp .neq 53 x.v y.v).run Tryd.prog w = .ok (.bool (!eqP x y)) w := by
  obtain ⟨s, k, b, n⟩ := x
  obtain ⟨s', k', b', n'⟩ := y
  unfold P.v eqP eqT
  have hs := toL_prop s s'
  cases h0 : strEq s s' <;> rw [h0] at hs <;> go_simp <;> by_cases h1 : k = k' <;> by_cases h2 : b = b' <;> by_cases h3 : n = n' <;> simp [h1, h2, h3]
theorem run_neqD (w : World) (x y : D) : (binOp .neq 55 x.v y.v).run Tryd.prog w = .ok (.bool (!eqD x y)) w := by
  obtain ⟨p, s, k, b, n⟩ := x
  obtain ⟨p', s', k', b', n'⟩ := y
  unfold D.v eqD eqT
  have hs := toL_prop s s'
  cases h0 : strEq s s' <;> rw [h0] at hs <;> go_simp <;> by_cases h1 : k = k' <;> by_cases h2 : b = b' <;> by_cases h3 : n = n' <;> by_cases h4 : p = p' <;> simp [h1, h2, h3, h4]
set_option maxRecDepth 100000 in
set_option maxHeartbeats 4000000 in
theorem EqP_c (l l' : List P) (n n' : Nat) (hn : l.length = n) (hn' : l'.length = n') (a a' : Option Addr) (c c' : Nat) (w : World) (hl : InPs w a l) (hl' : InPs w a' l') :
    Calls Tryd.prog 58 #[.slice a n c, .slice a' n' c'] w fun r w' => r = .returned (.bool (eqL eqP l l')) ∧ Ext w w' := by
  have HL := Lib.hid hl
  have HL' := Lib.hid hl'
  have hcap := hl.2
  have hcap' := hl'.2
  rw [hn] at hcap
  rw [hn'] at hcap'
  by_cases hnn : n = n'
  · subst hnn
    have EL : Hid (eqL eqP l l' = (l.zip l').all fun z => eqP z.1 z.2) := Lib.hid (by unfold eqL; rw [hn, hn', decide_eq_true rfl, Bool.true_and])
    have ZL : Hid ((l.zip l').length = n) := Lib.hid (by rw [List.length_zip, hn, hn', Nat.min_self])
    rw [EL.out]
    have HN := Lib.hid hn
    have HN' := Lib.hid hn'
    clear hl hl' hn hn' EL
    go_enter Tryd.func58, Tryd.ntmps58
    go_wp2_with fail
    go_loopw [13] (EvRel (fun z => eqP z.1 z.2) (l.zip l') w) (fun s _ => n - (intOf s).toNat)
    case atStart => exact ⟨0, rfl, Nat.zero_le _, fun k x hk => absurd hk (by omega), Ext.refl _⟩
    case round =>
      obtain ⟨j, rfl, hj, hall, hext⟩ := hrel
      rw [ZL.out] at hj
      have HX := Lib.hid hext
      have HA := Lib.hid hall
      clear hext hall
      by_cases hlt : j < n
      · obtain ⟨x, hxj⟩ := getE (l := l) (i := j) (by rw [HN.out]; exact hlt)
        obtain ⟨y, hyj⟩ := getE (l := l') (i := j) (by rw [HN'.out]; exact hlt)
        have HZ : Hid ((l.zip l')[j]? = some (x, y)) := Lib.hid (by rw [List.getElem?_zip_eq_some]; exact ⟨hxj, hyj⟩)
        obtain ⟨⟨b, o, rfl, k0, k1, k2, k3⟩, hin⟩ := (HL.out.to HX.out).at hxj
        obtain ⟨⟨b', o', rfl, m0, m1, m2, m3⟩, hin'⟩ := (HL'.out.to HX.out).at hyj
        have NE := fun W => run_neqP W x y
        obtain ⟨B, hB⟩ : ∃ B, B = eqP x y := ⟨_, rfl⟩
        simp only [← hB] at NE
        have HB := Lib.hid hB
        clear hxj hyj hB hin hin'
        unfold P.v at NE
        obtain ⟨xq0, hxq0⟩ : ∃ q, q = x.name := ⟨_, rfl⟩
        obtain ⟨xq1, hxq1⟩ : ∃ q, q = x.t.k := ⟨_, rfl⟩
        obtain ⟨xq2, hxq2⟩ : ∃ q, q = x.t.b := ⟨_, rfl⟩
        obtain ⟨xq3, hxq3⟩ : ∃ q, q = x.t.n := ⟨_, rfl⟩
        simp only [← hxq0, ← hxq1, ← hxq2, ← hxq3] at k0 k1 k2 k3 NE
        clear hxq0 hxq1 hxq2 hxq3
        obtain ⟨yq0, hyq0⟩ : ∃ q, q = y.name := ⟨_, rfl⟩
        obtain ⟨yq1, hyq1⟩ : ∃ q, q = y.t.k := ⟨_, rfl⟩
        obtain ⟨yq2, hyq2⟩ : ∃ q, q = y.t.b := ⟨_, rfl⟩
        obtain ⟨yq3, hyq3⟩ : ∃ q, q = y.t.n := ⟨_, rfl⟩
        simp only [← hyq0, ← hyq1, ← hyq2, ← hyq3] at m0 m1 m2 m3 NE
        clear hyq0 hyq1 hyq2 hyq3
        go_wp2_with fail
        refine region_factsL [[], [], [(0, 16), (1, 17)], [(2, 18)], [], [], [(4, 20), (5, 21)], [(6, 22)], [(3, 19), (7, 23)]] [some 16, some 17, some 18, some 19, some 20, some 21, some 22, some 23, some 24] [true, true, false, false, false, true, false, false, false, false, false, false, false, false, false, false, false, false, false, false, false, false, false, false, false, false] (by kernel_rfl) (by kernel_rfl) (by kernel_rfl) ?_
        dsimp only [maskL]
        with_reducible apply FromM.eq
        · intro w' hx; (try dsimp only [List.nil_append, List.cons_append, DepsL, DepsL1, setO, setN, favs, opsOf]); go_wp2; exact OpPostE.some _ rfl rfl (Ext.refl _) rfl
        with_reducible apply FromM.eq
        · intro w' hx; (try dsimp only [List.nil_append, List.cons_append, DepsL, DepsL1, setO, setN, favs, opsOf]); go_wp2; exact OpPostE.some _ rfl rfl (Ext.refl _) rfl
        with_reducible apply FromM.eq
        · intro w' hx; (try dsimp only [List.nil_append, List.cons_append, DepsL, DepsL1, setO, setN, favs, opsOf]); go_wp2; exact OpPostE.some _ rfl rfl (Ext.refl _) rfl
        with_reducible apply FromM.eq
        · intro w' hx; have k0x := hx.cell k0; have k1x := hx.cell k1; have k2x := hx.cell k2; have k3x := hx.cell k3; have m0x := hx.cell m0; have m1x := hx.cell m1; have m2x := hx.cell m2; have m3x := hx.cell m3; (try dsimp only [List.nil_append, List.cons_append, DepsL, DepsL1, setO, setN, favs, opsOf]); go_wp2; exact OpPostE.some _ rfl rfl (Ext.refl _) rfl
        with_reducible apply FromM.eq
        · intro w' hx; (try dsimp only [List.nil_append, List.cons_append, DepsL, DepsL1, setO, setN, favs, opsOf]); go_wp2; exact OpPostE.some _ rfl rfl (Ext.refl _) rfl
        with_reducible apply FromM.eq
        · intro w' hx; (try dsimp only [List.nil_append, List.cons_append, DepsL, DepsL1, setO, setN, favs, opsOf]); go_wp2; exact OpPostE.some _ rfl rfl (Ext.refl _) rfl
        with_reducible apply FromM.eq
        · intro w' hx; (try dsimp only [List.nil_append, List.cons_append, DepsL, DepsL1, setO, setN, favs, opsOf]); go_wp2; exact OpPostE.some _ rfl rfl (Ext.refl _) rfl
        with_reducible apply FromM.eq
        · intro w' hx; have k0x := hx.cell k0; have k1x := hx.cell k1; have k2x := hx.cell k2; have k3x := hx.cell k3; have m0x := hx.cell m0; have m1x := hx.cell m1; have m2x := hx.cell m2; have m3x := hx.cell m3; (try dsimp only [List.nil_append, List.cons_append, DepsL, DepsL1, setO, setN, favs, opsOf]); go_wp2; exact OpPostE.some _ rfl rfl (Ext.refl _) rfl
        with_reducible apply FromM.eq
        · intro w' hx; (try dsimp only [List.nil_append, List.cons_append, DepsL, DepsL1, setO, setN, favs, opsOf]); go_wp2; exact OpPostE.some _ rfl rfl (Ext.refl _) rfl
        with_reducible refine FromM.fin ?_
        intro w' hx
        (try dsimp only [List.nil_append, List.cons_append, EndL, DepsL1, setO, setN])
        have X2 := Lib.hid (HX.out.trans hx)
        clear hx k0 k1 k2 k3 m0 m1 m2 m3 NE
        cases B
        · go_wp2_with fail
          go_ret
          exact ⟨by rw [evNot HZ.out HB.out.symm]; rfl, X2.out⟩
        · go_wp2_with fail
          go_roundw
          case rel => exact ⟨j + 1, by go_num, by rw [ZL.out]; omega, evStep HZ.out HB.out.symm HA.out, X2.out⟩
          case measure => simp [intOf]; omega
      · obtain rfl : j = n := by omega
        go_wp2_with fail
        go_ret
        exact ⟨by rw [evAll ZL.out HA.out]; rfl, HX.out⟩
  · have EL : Hid (eqL eqP l l' = false) := Lib.hid (by unfold eqL; rw [hn, hn', decide_eq_false hnn, Bool.false_and])
    have t1 : ((n : Int) == (n' : Int)) = false := beq_eq_false_iff_ne.2 (by omega)
    rw [EL.out]
    clear hl hl' hn hn' EL HL HL' hcap hcap' hnn
    go_enter Tryd.func58, Tryd.ntmps58
    go_wp2_with fail
    go_ret
    exact ⟨rfl, Ext.refl _⟩
set_option maxRecDepth 100000 in
set_option maxHeartbeats 4000000 in
theorem EqD_c (l l' : List D) (n n' : Nat) (hn : l.length = n) (hn' : l'.length = n') (a a' : Option Addr) (c c' : Nat) (w : World) (hl : InDs w a l) (hl' : InDs w a' l') :
    Calls Tryd.prog 26 #[.slice a n c, .slice a' n' c'] w fun r w' => r = .returned (.bool (eqL eqD l l')) ∧ Ext w w' := by
  have HL := Lib.hid hl
  have HL' := Lib.hid hl'
  have hcap := hl.2
  have hcap' := hl'.2
  rw [hn] at hcap
  rw [hn'] at hcap'
  by_cases hnn : n = n'
  · subst hnn
    have EL : Hid (eqL eqD l l' = (l.zip l').all fun z => eqD z.1 z.2) := Lib.hid (by unfold eqL; rw [hn, hn', decide_eq_true rfl, Bool.true_and])
    have ZL : Hid ((l.zip l').length = n) := Lib.hid (by rw [List.length_zip, hn, hn', Nat.min_self])
    rw [EL.out]
    have HN := Lib.hid hn
    have HN' := Lib.hid hn'
    clear hl hl' hn hn' EL
    go_enter Tryd.func26, Tryd.ntmps26
    go_wp2_with fail
    go_loopw [13] (EvRel (fun z => eqD z.1 z.2) (l.zip l') w) (fun s _ => n - (intOf s).toNat)
    case atStart => exact ⟨0, rfl, Nat.zero_le _, fun k x hk => absurd hk (by omega), Ext.refl _⟩
    case round =>
      obtain ⟨j, rfl, hj, hall, hext⟩ := hrel
      rw [ZL.out] at hj
      have HX := Lib.hid hext
      have HA := Lib.hid hall
      clear hext hall
      by_cases hlt : j < n
      · obtain ⟨x, hxj⟩ := getE (l := l) (i := j) (by rw [HN.out]; exact hlt)
        obtain ⟨y, hyj⟩ := getE (l := l') (i := j) (by rw [HN'.out]; exact hlt)
        have HZ : Hid ((l.zip l')[j]? = some (x, y)) := Lib.hid (by rw [List.getElem?_zip_eq_some]; exact ⟨hxj, hyj⟩)
        obtain ⟨⟨b, o, rfl, k0, k1, k2, k3, k4⟩, hin⟩ := (HL.out.to HX.out).at hxj
        obtain ⟨⟨b', o', rfl, m0, m1, m2, m3, m4⟩, hin'⟩ := (HL'.out.to HX.out).at hyj
        have NE := fun W => run_neqD W x y
        obtain ⟨B, hB⟩ : ∃ B, B = eqD x y := ⟨_, rfl⟩
        simp only [← hB] at NE
        have HB := Lib.hid hB
        clear hxj hyj hB hin hin'
        unfold D.v at NE
        obtain ⟨xq0, hxq0⟩ : ∃ q, q = x.pub := ⟨_, rfl⟩
        obtain ⟨xq1, hxq1⟩ : ∃ q, q = x.name := ⟨_, rfl⟩
        obtain ⟨xq2, hxq2⟩ : ∃ q, q = x.t.k := ⟨_, rfl⟩
        obtain ⟨xq3, hxq3⟩ : ∃ q, q = x.t.b := ⟨_, rfl⟩
        obtain ⟨xq4, hxq4⟩ : ∃ q, q = x.t.n := ⟨_, rfl⟩
        simp only [← hxq0, ← hxq1, ← hxq2, ← hxq3, ← hxq4] at k0 k1 k2 k3 k4 NE
        clear hxq0 hxq1 hxq2 hxq3 hxq4
        obtain ⟨yq0, hyq0⟩ : ∃ q, q = y.pub := ⟨_, rfl⟩
        obtain ⟨yq1, hyq1⟩ : ∃ q, q = y.name := ⟨_, rfl⟩
        obtain ⟨yq2, hyq2⟩ : ∃ q, q = y.t.k := ⟨_, rfl⟩
        obtain ⟨yq3, hyq3⟩ : ∃ q, q = y.t.b := ⟨_, rfl⟩
        obtain ⟨yq4, hyq4⟩ : ∃ q, q = y.t.n := ⟨_, rfl⟩
        simp only [← hyq0, ← hyq1, ← hyq2, ← hyq3, ← hyq4] at m0 m1 m2 m3 m4 NE
        clear hyq0 hyq1 hyq2 hyq3 hyq4
        go_wp2_with fail
        refine region_factsL [[], [], [(0, 16), (1, 17)], [(2, 18)], [], [], [(4, 20), (5, 21)], [(6, 22)], [(3, 19), (7, 23)]] [some 16, some 17, some 18, some 19, some 20, some 21, some 22, some 23, some 24] [true, true, false, false, false, true, false, false, false, false, false, false, false, false, false, false, false, false, false, false, false, false, false, false, false, false] (by kernel_rfl) (by kernel_rfl) (by kernel_rfl) ?_
        dsimp only [maskL]
        with_reducible apply FromM.eq
        · intro w' hx; (try dsimp only [List.nil_append, List.cons_append, DepsL, DepsL1, setO, setN, favs, opsOf]); go_wp2; exact OpPostE.some _ rfl rfl (Ext.refl _) rfl
        with_reducible apply FromM.eq
        · intro w' hx; (try dsimp only [List.nil_append, List.cons_append, DepsL, DepsL1, setO, setN, favs, opsOf]); go_wp2; exact OpPostE.some _ rfl rfl (Ext.refl _) rfl
        with_reducible apply FromM.eq
        · intro w' hx; (try dsimp only [List.nil_append, List.cons_append, DepsL, DepsL1, setO, setN, favs, opsOf]); go_wp2; exact OpPostE.some _ rfl rfl (Ext.refl _) rfl
        with_reducible apply FromM.eq
        · intro w' hx; have k0x := hx.cell k0; have k1x := hx.cell k1; have k2x := hx.cell k2; have k3x := hx.cell k3; have k4x := hx.cell k4; have m0x := hx.cell m0; have m1x := hx.cell m1; have m2x := hx.cell m2; have m3x := hx.cell m3; have m4x := hx.cell m4; (try dsimp only [List.nil_append, List.cons_append, DepsL, DepsL1, setO, setN, favs, opsOf]); go_wp2; exact OpPostE.some _ rfl rfl (Ext.refl _) rfl
        with_reducible apply FromM.eq
        · intro w' hx; (try dsimp only [List.nil_append, List.cons_append, DepsL, DepsL1, setO, setN, favs, opsOf]); go_wp2; exact OpPostE.some _ rfl rfl (Ext.refl _) rfl
        with_reducible apply FromM.eq
        · intro w' hx; (try dsimp only [List.nil_append, List.cons_append, DepsL, DepsL1, setO, setN, favs, opsOf]); go_wp2; exact OpPostE.some _ rfl rfl (Ext.refl _) rfl
        with_reducible apply FromM.eq
        · intro w' hx; (try dsimp only [List.nil_append, List.cons_append, DepsL, DepsL1, setO, setN, favs, opsOf]); go_wp2; exact OpPostE.some _ rfl rfl (Ext.refl _) rfl
        with_reducible apply FromM.eq
        · intro w' hx; have k0x := hx.cell k0; have k1x := hx.cell k1; have k2x := hx.cell k2; have k3x := hx.cell k3; have k4x := hx.cell k4; have m0x := hx.cell m0; have m1x := hx.cell m1; have m2x := hx.cell m2; have m3x := hx.cell m3; have m4x := hx.cell m4; (try dsimp only [List.nil_append, List.cons_append, DepsL, DepsL1, setO, setN, favs, opsOf]); go_wp2; exact OpPostE.some _ rfl rfl (Ext.refl _) rfl
        with_reducible apply FromM.eq
        · intro w' hx; (try dsimp only [List.nil_append, List.cons_append, DepsL, DepsL1, setO, setN, favs, opsOf]); go_wp2; exact OpPostE.some _ rfl rfl (Ext.refl _) rfl
        with_reducible refine FromM.fin ?_
        intro w' hx
        (try dsimp only [List.nil_append, List.cons_append, EndL, DepsL1, setO, setN])
        have X2 := Lib.hid (HX.out.trans hx)
        clear hx k0 k1 k2 k3 k4 m0 m1 m2 m3 m4 NE
        cases B
        · go_wp2_with fail
          go_ret
          exact ⟨by rw [evNot HZ.out HB.out.symm]; rfl, X2.out⟩
        · go_wp2_with fail
          go_roundw
          case rel => exact ⟨j + 1, by go_num, by rw [ZL.out]; omega, evStep HZ.out HB.out.symm HA.out, X2.out⟩
          case measure => simp [intOf]; omega
      · obtain rfl : j = n := by omega
        go_wp2_with fail
        go_ret
        exact ⟨by rw [evAll ZL.out HA.out]; rfl, HX.out⟩
  · have EL : Hid (eqL eqD l l' = false) := Lib.hid (by unfold eqL; rw [hn, hn', decide_eq_false hnn, Bool.false_and])
    have t1 : ((n : Int) == (n' : Int)) = false := beq_eq_false_iff_ne.2 (by omega)
    rw [EL.out]
    clear hl hl' hn hn' EL HL HL' hcap hcap' hnn
    go_enter Tryd.func26, Tryd.ntmps26
    go_wp2_with fail
    go_ret
    exact ⟨rfl, Ext.refl _⟩
end Go.Proofs.YtcheigpejbmaoaaDoor
