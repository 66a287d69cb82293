/- Well-formed expressions: the document. Printed by gen/val6.py. -/
import Derived.Test.YtcheigpejbmaoaaDoorVb1
namespace Go.Proofs.YtcheigpejbmaoaaDoor
open Go.RowKit
theorem okSh_ref (op : Int) (un uv nm : Bool) (n : Nat) : okSh op un uv nm n = (argOk op n && ((if op = 2 ∨ op = 5 then nm else un) && (if op = 1 ∨ op = 6 then true else uv))) := by
  unfold okSh argOk
  by_cases h1 : op = 1
  · subst h1; simp
  by_cases h2 : op = 2
  · subst h2; cases uv <;> cases nm <;> simp
  by_cases h3 : op = 3
  · subst h3; cases uv <;> cases un <;> simp
  by_cases h4 : op = 4
  · subst h4; cases uv <;> cases un <;> simp
  by_cases h5 : op = 5
  · subst h5; cases uv <;> cases nm <;> simp
  by_cases h6 : op = 6
  · subst h6; cases un <;> simp; omega
  by_cases h7 : op = 7
  · subst h7; cases uv <;> cases un <;> simp; omega
  by_cases h9 : op = 9
  · subst h9; cases uv <;> cases un <;> simp
  by_cases h10 : op = 10
  · subst h10; cases uv <;> cases un <;> simp
  by_cases h20 : op = 20
  · subst h20; cases uv <;> cases un <;> simp
  rw [if_neg h1, if_neg h2, if_neg (show ¬ (op = 3 ∨ op = 4) by omega), if_neg h5, if_neg h6, if_neg h7, if_neg (show ¬ (op = 9 ∨ op = 10) by omega), if_neg h20,
    if_neg (show ¬ (op = 1 ∨ op = 2 ∨ op = 3 ∨ op = 4) by omega), if_neg h5, if_neg (show ¬ (op = 6 ∨ op = 7) by omega), if_neg (show ¬ (op = 9 ∨ op = 10) by omega), if_neg h20, if_neg (show ¬ (op = 2 ∨ op = 5) by omega), if_neg (show ¬ (op = 1 ∨ op = 6) by omega)]
  by_cases h8 : 8 ≤ op ∧ op ≤ 19
  · rw [if_pos (show op = 8 ∨ 11 ≤ op ∧ op ≤ 19 by omega), if_pos h8]; cases uv <;> cases un <;> simp
  · rw [if_neg (show ¬ (op = 8 ∨ 11 ≤ op ∧ op ≤ 19) by omega), if_neg h8]; rfl
set_option maxRecDepth 100000 in
set_option maxHeartbeats 16000000 in
theorem RExpr_n : ∀ (m : Nat) (x : E), E.sz x < m → ∀ w, InE w x → Calls Tryd.prog 68 #[x.v] w fun r w' => r = .returned (.bool (okE x)) ∧ Ext w w' := by
  intro m
  induction m with
  | zero => intro x h; exact absurd h (by omega)
  | succ m ih =>
    intro x hm w hx
    have IH := Lib.hid (fun (i : Nat) u (hu : x.args[i]? = some u) => ih u (by have := E.sz_arg hu; omega))
    have EQ := okE_eq x
    have ES := okSh_ref x.op (decide (x.name.size = 0)) (decide (x.val = 0)) (nameOk x.name) x.args.length
    have AC := fun w' => args_c x.op x.args.length w'
    have NC := fun w' => RName_c x.name w'
    have te := toL_empty x.name
    have tv := beqN x.val
    have HL := hx.l
    have hcap := hx.l.2
    obtain ⟨R, hR⟩ : ∃ R, R = okE x := ⟨_, rfl⟩
    rw [← hR] at EQ ⊢
    obtain ⟨Sh, hSh⟩ : ∃ R, R = okSh x.op (decide (x.name.size = 0)) (decide (x.val = 0)) (nameOk x.name) x.args.length := ⟨_, rfl⟩
    rw [← hSh] at EQ ES
    unfold E.v
    obtain ⟨A, hA⟩ : ∃ q, q = argOk x.op x.args.length := ⟨_, rfl⟩
    obtain ⟨nm, hnm⟩ : ∃ q, q = nameOk x.name := ⟨_, rfl⟩
    obtain ⟨un, hun⟩ : ∃ q, q = decide (x.name.size = 0) := ⟨_, rfl⟩
    obtain ⟨uv, huv⟩ : ∃ q, q = decide (x.val = 0) := ⟨_, rfl⟩
    simp only [← hA, ← hnm, ← hun, ← huv] at ES AC NC te tv
    clear hA hnm hun huv hR hSh ih hx hm
    obtain ⟨xq0, hxq0⟩ : ∃ q, q = x.op := ⟨_, rfl⟩
    obtain ⟨xq1, hxq1⟩ : ∃ q, q = x.val := ⟨_, rfl⟩
    obtain ⟨xq2, hxq2⟩ : ∃ q, q = x.name := ⟨_, rfl⟩
    obtain ⟨xq3, hxq3⟩ : ∃ q, q = x.a := ⟨_, rfl⟩
    obtain ⟨xq4, hxq4⟩ : ∃ q, q = x.args.length := ⟨_, rfl⟩
    obtain ⟨xq5, hxq5⟩ : ∃ q, q = x.cap := ⟨_, rfl⟩
    simp only [← hxq0, ← hxq1, ← hxq2, ← hxq3, ← hxq4, ← hxq5] at ES AC NC te tv HL hcap ⊢
    have HN := Lib.hid hxq4
    clear hxq0 hxq1 hxq2 hxq3 hxq4 hxq5
    have tvb : ((xq1 : Int) != 0) = !uv := by rw [bne, tv]
    replace EQ := Lib.hid EQ
    replace ES := Lib.hid ES
    replace AC := Lib.hid AC
    replace NC := Lib.hid NC
    replace HL := Lib.hid HL
    by_cases h2 : xq0 = 2
    · subst h2
      replace ES : Hid (Sh = (A && ((nm) && (uv)))) := Lib.hid (by rw [ES.out]; simp)
      go_enter Tryd.func68, Tryd.ntmps68
      go_wp2_with fail
      obtain ⟨wb, hwb⟩ : ∃ q, q = w.alloc (.cells #[.int .i64 2, .int .u64 (xq1 : Int), .string xq2, .slice xq3 xq4 xq5] 44) := ⟨_, rfl⟩
      have c0 : wb.cell? ⟨w.heap.size, 0, none⟩ = some (.int .i64 2) := by rw [hwb]; simp
      have c1 : wb.cell? ⟨w.heap.size, 1, none⟩ = some (.int .u64 (xq1 : Int)) := by rw [hwb]; simp
      have c2 : wb.cell? ⟨w.heap.size, 2, none⟩ = some (.string xq2) := by rw [hwb]; simp
      have c3 : wb.cell? ⟨w.heap.size, 3, none⟩ = some (.slice xq3 xq4 xq5) := by rw [hwb]; simp
      have X : Ext w wb := by rw [hwb]; exact (Ext.refl _).alloc _
      rw [← hwb]
      clear hwb
      refine (AC.out _).mono ?_; rintro e1 w1 ⟨rfl, x1⟩
      replace c0 := x1.cell c0
      replace c1 := x1.cell c1
      replace c2 := x1.cell c2
      replace c3 := x1.cell c3
      replace X := X.trans x1
      clear x1
      cases A
      · have ER : Hid (R = false) := Lib.hid (by rw [EQ.out, ES.out]; simp)
        clear EQ ES
        go_wp2_with fail
        go_ret
        exact ⟨by rw [ER.out]; rfl, X⟩
      · go_wp2_with fail
        refine (NC.out _).mono ?_; rintro e2 w2 ⟨rfl, x2⟩
        replace c0 := x2.cell c0
        replace c1 := x2.cell c1
        replace c2 := x2.cell c2
        replace c3 := x2.cell c3
        replace X := X.trans x2
        clear x2
        cases nm
        · have ER : Hid (R = false) := Lib.hid (by rw [EQ.out, ES.out]; simp)
          clear EQ ES
          go_wp2_with fail
          go_ret
          exact ⟨by rw [ER.out]; rfl, X⟩
        · cases uv
          · have ER : Hid (R = false) := Lib.hid (by rw [EQ.out, ES.out]; simp)
            clear EQ ES
            go_wp2_with fail
            go_ret
            exact ⟨by rw [ER.out]; rfl, X⟩
          · have EL : Hid (R = x.args.all okE) := Lib.hid (by rw [EQ.out, ES.out]; simp)
            have HX1 := Lib.hid X
            clear X EQ ES
            go_wp2_with fail
            clear c0 c1 c2
            go_loopw [5] (EvRel okE x.args w2) (fun s _ => xq4 - (intOf s).toNat)
            case atStart => exact ⟨0, rfl, Nat.zero_le _, fun k x hk => absurd hk (by omega), Ext.refl _⟩
            case round =>
              obtain ⟨j, rfl, hj, hall, hext⟩ := hrel
              rw [← HN.out] at hj
              replace c3 := hext.cell c3
              have HX := Lib.hid hext
              have HA := Lib.hid hall
              clear hext hall
              by_cases hlt : j < xq4
              · obtain ⟨u, hxj⟩ := getE (l := x.args) (i := j) (by rw [← HN.out]; exact hlt)
                obtain ⟨⟨b, o, rfl, k0, k1, k2, k3⟩, hin⟩ := (HL.out.to (HX1.out.trans HX.out)).at hxj
                have PC := IH.out j u hxj
                obtain ⟨B, hB⟩ : ∃ B, B = okE u := ⟨_, rfl⟩
                rw [← hB] at PC
                have HB := Lib.hid hB
                have HXJ := Lib.hid hxj
                have HIN := Lib.hid hin
                clear hin hxj hB
                unfold E.v at PC
                obtain ⟨uq0, huq0⟩ : ∃ q, q = u.op := ⟨_, rfl⟩
                obtain ⟨uq1, huq1⟩ : ∃ q, q = u.val := ⟨_, rfl⟩
                obtain ⟨uq2, huq2⟩ : ∃ q, q = u.name := ⟨_, rfl⟩
                obtain ⟨uq3, huq3⟩ : ∃ q, q = u.a := ⟨_, rfl⟩
                obtain ⟨uq4, huq4⟩ : ∃ q, q = u.args.length := ⟨_, rfl⟩
                obtain ⟨uq5, huq5⟩ : ∃ q, q = u.cap := ⟨_, rfl⟩
                simp only [← huq0, ← huq1, ← huq2, ← huq3, ← huq4, ← huq5] at k0 k1 k2 k3 PC
                clear huq0 huq1 huq2 huq3 huq4 huq5
                replace PC := Lib.hid PC
                go_wp2_with fail
                refine (PC.out _ HIN.out).mono ?_; rintro e w2 ⟨rfl, x2⟩
                have X2 := Lib.hid (HX.out.trans x2)
                clear x2 k0 k1 k2 k3 c3
                cases B
                · have X := HX1.out.trans X2.out
                  go_wp2_with fail
                  go_ret
                  exact ⟨by rw [EL.out, evNot HXJ.out HB.out.symm]; rfl, X⟩
                · go_wp2_with fail
                  go_roundw
                  case rel => exact ⟨j + 1, by go_num, by rw [← HN.out]; omega, evStep HXJ.out HB.out.symm HA.out, X2.out⟩
                  case measure => simp [intOf]; omega
              · obtain rfl : j = xq4 := by omega
                have X := HX1.out.trans HX.out
                go_wp2_with fail
                go_ret
                exact ⟨by rw [EL.out, evAll HN.out.symm HA.out]; rfl, X⟩
    have t2 : (xq0 == 2) = false := beq_eq_false_iff_ne.2 h2
    by_cases h5 : xq0 = 5
    · subst h5
      replace ES : Hid (Sh = (A && ((nm) && (uv)))) := Lib.hid (by rw [ES.out]; simp)
      go_enter Tryd.func68, Tryd.ntmps68
      go_wp2_with fail
      obtain ⟨wb, hwb⟩ : ∃ q, q = w.alloc (.cells #[.int .i64 5, .int .u64 (xq1 : Int), .string xq2, .slice xq3 xq4 xq5] 44) := ⟨_, rfl⟩
      have c0 : wb.cell? ⟨w.heap.size, 0, none⟩ = some (.int .i64 5) := by rw [hwb]; simp
      have c1 : wb.cell? ⟨w.heap.size, 1, none⟩ = some (.int .u64 (xq1 : Int)) := by rw [hwb]; simp
      have c2 : wb.cell? ⟨w.heap.size, 2, none⟩ = some (.string xq2) := by rw [hwb]; simp
      have c3 : wb.cell? ⟨w.heap.size, 3, none⟩ = some (.slice xq3 xq4 xq5) := by rw [hwb]; simp
      have X : Ext w wb := by rw [hwb]; exact (Ext.refl _).alloc _
      rw [← hwb]
      clear hwb
      refine (AC.out _).mono ?_; rintro e1 w1 ⟨rfl, x1⟩
      replace c0 := x1.cell c0
      replace c1 := x1.cell c1
      replace c2 := x1.cell c2
      replace c3 := x1.cell c3
      replace X := X.trans x1
      clear x1
      cases A
      · have ER : Hid (R = false) := Lib.hid (by rw [EQ.out, ES.out]; simp)
        clear EQ ES
        go_wp2_with fail
        go_ret
        exact ⟨by rw [ER.out]; rfl, X⟩
      · go_wp2_with fail
        refine (NC.out _).mono ?_; rintro e2 w2 ⟨rfl, x2⟩
        replace c0 := x2.cell c0
        replace c1 := x2.cell c1
        replace c2 := x2.cell c2
        replace c3 := x2.cell c3
        replace X := X.trans x2
        clear x2
        cases nm
        · have ER : Hid (R = false) := Lib.hid (by rw [EQ.out, ES.out]; simp)
          clear EQ ES
          go_wp2_with fail
          go_ret
          exact ⟨by rw [ER.out]; rfl, X⟩
        · cases uv
          · have ER : Hid (R = false) := Lib.hid (by rw [EQ.out, ES.out]; simp)
            clear EQ ES
            go_wp2_with fail
            go_ret
            exact ⟨by rw [ER.out]; rfl, X⟩
          · have EL : Hid (R = x.args.all okE) := Lib.hid (by rw [EQ.out, ES.out]; simp)
            have HX1 := Lib.hid X
            clear X EQ ES
            go_wp2_with fail
            clear c0 c1 c2
            go_loopw [5] (EvRel okE x.args w2) (fun s _ => xq4 - (intOf s).toNat)
            case atStart => exact ⟨0, rfl, Nat.zero_le _, fun k x hk => absurd hk (by omega), Ext.refl _⟩
            case round =>
              obtain ⟨j, rfl, hj, hall, hext⟩ := hrel
              rw [← HN.out] at hj
              replace c3 := hext.cell c3
              have HX := Lib.hid hext
              have HA := Lib.hid hall
              clear hext hall
              by_cases hlt : j < xq4
              · obtain ⟨u, hxj⟩ := getE (l := x.args) (i := j) (by rw [← HN.out]; exact hlt)
                obtain ⟨⟨b, o, rfl, k0, k1, k2, k3⟩, hin⟩ := (HL.out.to (HX1.out.trans HX.out)).at hxj
                have PC := IH.out j u hxj
                obtain ⟨B, hB⟩ : ∃ B, B = okE u := ⟨_, rfl⟩
                rw [← hB] at PC
                have HB := Lib.hid hB
                have HXJ := Lib.hid hxj
                have HIN := Lib.hid hin
                clear hin hxj hB
                unfold E.v at PC
                obtain ⟨uq0, huq0⟩ : ∃ q, q = u.op := ⟨_, rfl⟩
                obtain ⟨uq1, huq1⟩ : ∃ q, q = u.val := ⟨_, rfl⟩
                obtain ⟨uq2, huq2⟩ : ∃ q, q = u.name := ⟨_, rfl⟩
                obtain ⟨uq3, huq3⟩ : ∃ q, q = u.a := ⟨_, rfl⟩
                obtain ⟨uq4, huq4⟩ : ∃ q, q = u.args.length := ⟨_, rfl⟩
                obtain ⟨uq5, huq5⟩ : ∃ q, q = u.cap := ⟨_, rfl⟩
                simp only [← huq0, ← huq1, ← huq2, ← huq3, ← huq4, ← huq5] at k0 k1 k2 k3 PC
                clear huq0 huq1 huq2 huq3 huq4 huq5
                replace PC := Lib.hid PC
                go_wp2_with fail
                refine (PC.out _ HIN.out).mono ?_; rintro e w2 ⟨rfl, x2⟩
                have X2 := Lib.hid (HX.out.trans x2)
                clear x2 k0 k1 k2 k3 c3
                cases B
                · have X := HX1.out.trans X2.out
                  go_wp2_with fail
                  go_ret
                  exact ⟨by rw [EL.out, evNot HXJ.out HB.out.symm]; rfl, X⟩
                · go_wp2_with fail
                  go_roundw
                  case rel => exact ⟨j + 1, by go_num, by rw [← HN.out]; omega, evStep HXJ.out HB.out.symm HA.out, X2.out⟩
                  case measure => simp [intOf]; omega
              · obtain rfl : j = xq4 := by omega
                have X := HX1.out.trans HX.out
                go_wp2_with fail
                go_ret
                exact ⟨by rw [EL.out, evAll HN.out.symm HA.out]; rfl, X⟩
    have t5 : (xq0 == 5) = false := beq_eq_false_iff_ne.2 h5
    by_cases h1 : xq0 = 1
    · subst h1
      replace ES : Hid (Sh = (A && ((un) && (true)))) := Lib.hid (by rw [ES.out]; simp)
      go_enter Tryd.func68, Tryd.ntmps68
      go_wp2_with fail
      obtain ⟨wb, hwb⟩ : ∃ q, q = w.alloc (.cells #[.int .i64 1, .int .u64 (xq1 : Int), .string xq2, .slice xq3 xq4 xq5] 44) := ⟨_, rfl⟩
      have c0 : wb.cell? ⟨w.heap.size, 0, none⟩ = some (.int .i64 1) := by rw [hwb]; simp
      have c1 : wb.cell? ⟨w.heap.size, 1, none⟩ = some (.int .u64 (xq1 : Int)) := by rw [hwb]; simp
      have c2 : wb.cell? ⟨w.heap.size, 2, none⟩ = some (.string xq2) := by rw [hwb]; simp
      have c3 : wb.cell? ⟨w.heap.size, 3, none⟩ = some (.slice xq3 xq4 xq5) := by rw [hwb]; simp
      have X : Ext w wb := by rw [hwb]; exact (Ext.refl _).alloc _
      rw [← hwb]
      clear hwb
      refine (AC.out _).mono ?_; rintro e1 w1 ⟨rfl, x1⟩
      replace c0 := x1.cell c0
      replace c1 := x1.cell c1
      replace c2 := x1.cell c2
      replace c3 := x1.cell c3
      replace X := X.trans x1
      clear x1
      cases A
      · have ER : Hid (R = false) := Lib.hid (by rw [EQ.out, ES.out]; simp)
        clear EQ ES
        go_wp2_with fail
        go_ret
        exact ⟨by rw [ER.out]; rfl, X⟩
      · cases un
        · have ER : Hid (R = false) := Lib.hid (by rw [EQ.out, ES.out]; simp)
          clear EQ ES
          go_wp2_with fail
          go_ret
          exact ⟨by rw [ER.out]; rfl, X⟩
        · have EL : Hid (R = x.args.all okE) := Lib.hid (by rw [EQ.out, ES.out]; simp)
          have HX1 := Lib.hid X
          clear X EQ ES
          go_wp2_with fail
          clear c0 c1 c2
          go_loopw [5] (EvRel okE x.args w1) (fun s _ => xq4 - (intOf s).toNat)
          case atStart => exact ⟨0, rfl, Nat.zero_le _, fun k x hk => absurd hk (by omega), Ext.refl _⟩
          case round =>
            obtain ⟨j, rfl, hj, hall, hext⟩ := hrel
            rw [← HN.out] at hj
            replace c3 := hext.cell c3
            have HX := Lib.hid hext
            have HA := Lib.hid hall
            clear hext hall
            by_cases hlt : j < xq4
            · obtain ⟨u, hxj⟩ := getE (l := x.args) (i := j) (by rw [← HN.out]; exact hlt)
              obtain ⟨⟨b, o, rfl, k0, k1, k2, k3⟩, hin⟩ := (HL.out.to (HX1.out.trans HX.out)).at hxj
              have PC := IH.out j u hxj
              obtain ⟨B, hB⟩ : ∃ B, B = okE u := ⟨_, rfl⟩
              rw [← hB] at PC
              have HB := Lib.hid hB
              have HXJ := Lib.hid hxj
              have HIN := Lib.hid hin
              clear hin hxj hB
              unfold E.v at PC
              obtain ⟨uq0, huq0⟩ : ∃ q, q = u.op := ⟨_, rfl⟩
              obtain ⟨uq1, huq1⟩ : ∃ q, q = u.val := ⟨_, rfl⟩
              obtain ⟨uq2, huq2⟩ : ∃ q, q = u.name := ⟨_, rfl⟩
              obtain ⟨uq3, huq3⟩ : ∃ q, q = u.a := ⟨_, rfl⟩
              obtain ⟨uq4, huq4⟩ : ∃ q, q = u.args.length := ⟨_, rfl⟩
              obtain ⟨uq5, huq5⟩ : ∃ q, q = u.cap := ⟨_, rfl⟩
              simp only [← huq0, ← huq1, ← huq2, ← huq3, ← huq4, ← huq5] at k0 k1 k2 k3 PC
              clear huq0 huq1 huq2 huq3 huq4 huq5
              replace PC := Lib.hid PC
              go_wp2_with fail
              refine (PC.out _ HIN.out).mono ?_; rintro e w2 ⟨rfl, x2⟩
              have X2 := Lib.hid (HX.out.trans x2)
              clear x2 k0 k1 k2 k3 c3
              cases B
              · have X := HX1.out.trans X2.out
                go_wp2_with fail
                go_ret
                exact ⟨by rw [EL.out, evNot HXJ.out HB.out.symm]; rfl, X⟩
              · go_wp2_with fail
                go_roundw
                case rel => exact ⟨j + 1, by go_num, by rw [← HN.out]; omega, evStep HXJ.out HB.out.symm HA.out, X2.out⟩
                case measure => simp [intOf]; omega
            · obtain rfl : j = xq4 := by omega
              have X := HX1.out.trans HX.out
              go_wp2_with fail
              go_ret
              exact ⟨by rw [EL.out, evAll HN.out.symm HA.out]; rfl, X⟩
    have t1 : (xq0 == 1) = false := beq_eq_false_iff_ne.2 h1
    by_cases h6 : xq0 = 6
    · subst h6
      replace ES : Hid (Sh = (A && ((un) && (true)))) := Lib.hid (by rw [ES.out]; simp)
      go_enter Tryd.func68, Tryd.ntmps68
      go_wp2_with fail
      obtain ⟨wb, hwb⟩ : ∃ q, q = w.alloc (.cells #[.int .i64 6, .int .u64 (xq1 : Int), .string xq2, .slice xq3 xq4 xq5] 44) := ⟨_, rfl⟩
      have c0 : wb.cell? ⟨w.heap.size, 0, none⟩ = some (.int .i64 6) := by rw [hwb]; simp
      have c1 : wb.cell? ⟨w.heap.size, 1, none⟩ = some (.int .u64 (xq1 : Int)) := by rw [hwb]; simp
      have c2 : wb.cell? ⟨w.heap.size, 2, none⟩ = some (.string xq2) := by rw [hwb]; simp
      have c3 : wb.cell? ⟨w.heap.size, 3, none⟩ = some (.slice xq3 xq4 xq5) := by rw [hwb]; simp
      have X : Ext w wb := by rw [hwb]; exact (Ext.refl _).alloc _
      rw [← hwb]
      clear hwb
      refine (AC.out _).mono ?_; rintro e1 w1 ⟨rfl, x1⟩
      replace c0 := x1.cell c0
      replace c1 := x1.cell c1
      replace c2 := x1.cell c2
      replace c3 := x1.cell c3
      replace X := X.trans x1
      clear x1
      cases A
      · have ER : Hid (R = false) := Lib.hid (by rw [EQ.out, ES.out]; simp)
        clear EQ ES
        go_wp2_with fail
        go_ret
        exact ⟨by rw [ER.out]; rfl, X⟩
      · cases un
        · have ER : Hid (R = false) := Lib.hid (by rw [EQ.out, ES.out]; simp)
          clear EQ ES
          go_wp2_with fail
          go_ret
          exact ⟨by rw [ER.out]; rfl, X⟩
        · have EL : Hid (R = x.args.all okE) := Lib.hid (by rw [EQ.out, ES.out]; simp)
          have HX1 := Lib.hid X
          clear X EQ ES
          go_wp2_with fail
          clear c0 c1 c2
          go_loopw [5] (EvRel okE x.args w1) (fun s _ => xq4 - (intOf s).toNat)
          case atStart => exact ⟨0, rfl, Nat.zero_le _, fun k x hk => absurd hk (by omega), Ext.refl _⟩
          case round =>
            obtain ⟨j, rfl, hj, hall, hext⟩ := hrel
            rw [← HN.out] at hj
            replace c3 := hext.cell c3
            have HX := Lib.hid hext
            have HA := Lib.hid hall
            clear hext hall
            by_cases hlt : j < xq4
            · obtain ⟨u, hxj⟩ := getE (l := x.args) (i := j) (by rw [← HN.out]; exact hlt)
              obtain ⟨⟨b, o, rfl, k0, k1, k2, k3⟩, hin⟩ := (HL.out.to (HX1.out.trans HX.out)).at hxj
              have PC := IH.out j u hxj
              obtain ⟨B, hB⟩ : ∃ B, B = okE u := ⟨_, rfl⟩
              rw [← hB] at PC
              have HB := Lib.hid hB
              have HXJ := Lib.hid hxj
              have HIN := Lib.hid hin
              clear hin hxj hB
              unfold E.v at PC
              obtain ⟨uq0, huq0⟩ : ∃ q, q = u.op := ⟨_, rfl⟩
              obtain ⟨uq1, huq1⟩ : ∃ q, q = u.val := ⟨_, rfl⟩
              obtain ⟨uq2, huq2⟩ : ∃ q, q = u.name := ⟨_, rfl⟩
              obtain ⟨uq3, huq3⟩ : ∃ q, q = u.a := ⟨_, rfl⟩
              obtain ⟨uq4, huq4⟩ : ∃ q, q = u.args.length := ⟨_, rfl⟩
              obtain ⟨uq5, huq5⟩ : ∃ q, q = u.cap := ⟨_, rfl⟩
              simp only [← huq0, ← huq1, ← huq2, ← huq3, ← huq4, ← huq5] at k0 k1 k2 k3 PC
              clear huq0 huq1 huq2 huq3 huq4 huq5
              replace PC := Lib.hid PC
              go_wp2_with fail
              refine (PC.out _ HIN.out).mono ?_; rintro e w2 ⟨rfl, x2⟩
              have X2 := Lib.hid (HX.out.trans x2)
              clear x2 k0 k1 k2 k3 c3
              cases B
              · have X := HX1.out.trans X2.out
                go_wp2_with fail
                go_ret
                exact ⟨by rw [EL.out, evNot HXJ.out HB.out.symm]; rfl, X⟩
              · go_wp2_with fail
                go_roundw
                case rel => exact ⟨j + 1, by go_num, by rw [← HN.out]; omega, evStep HXJ.out HB.out.symm HA.out, X2.out⟩
                case measure => simp [intOf]; omega
            · obtain rfl : j = xq4 := by omega
              have X := HX1.out.trans HX.out
              go_wp2_with fail
              go_ret
              exact ⟨by rw [EL.out, evAll HN.out.symm HA.out]; rfl, X⟩
    have t6 : (xq0 == 6) = false := beq_eq_false_iff_ne.2 h6
    replace ES : Hid (Sh = (A && (un && uv))) := Lib.hid (by rw [ES.out, if_neg (by omega), if_neg (by omega)])
    clear h2 h5 h1 h6
    go_enter Tryd.func68, Tryd.ntmps68
    go_wp2_with fail
    obtain ⟨wb, hwb⟩ : ∃ q, q = w.alloc (.cells #[.int .i64 xq0, .int .u64 (xq1 : Int), .string xq2, .slice xq3 xq4 xq5] 44) := ⟨_, rfl⟩
    have c0 : wb.cell? ⟨w.heap.size, 0, none⟩ = some (.int .i64 xq0) := by rw [hwb]; simp
    have c1 : wb.cell? ⟨w.heap.size, 1, none⟩ = some (.int .u64 (xq1 : Int)) := by rw [hwb]; simp
    have c2 : wb.cell? ⟨w.heap.size, 2, none⟩ = some (.string xq2) := by rw [hwb]; simp
    have c3 : wb.cell? ⟨w.heap.size, 3, none⟩ = some (.slice xq3 xq4 xq5) := by rw [hwb]; simp
    have X : Ext w wb := by rw [hwb]; exact (Ext.refl _).alloc _
    rw [← hwb]
    clear hwb
    refine (AC.out _).mono ?_; rintro e1 w1 ⟨rfl, x1⟩
    replace c0 := x1.cell c0
    replace c1 := x1.cell c1
    replace c2 := x1.cell c2
    replace c3 := x1.cell c3
    replace X := X.trans x1
    clear x1
    cases A
    · have ER : Hid (R = false) := Lib.hid (by rw [EQ.out, ES.out]; simp)
      clear EQ ES
      go_wp2_with fail
      go_ret
      exact ⟨by rw [ER.out]; rfl, X⟩
    · cases un
      · have ER : Hid (R = false) := Lib.hid (by rw [EQ.out, ES.out]; simp)
        clear EQ ES
        go_wp2_with fail
        go_ret
        exact ⟨by rw [ER.out]; rfl, X⟩
      · cases uv
        · have ER : Hid (R = false) := Lib.hid (by rw [EQ.out, ES.out]; simp)
          clear EQ ES
          go_wp2_with fail
          go_ret
          exact ⟨by rw [ER.out]; rfl, X⟩
        · have EL : Hid (R = x.args.all okE) := Lib.hid (by rw [EQ.out, ES.out]; simp)
          have HX1 := Lib.hid X
          clear X EQ ES
          go_wp2_with fail
          clear c0 c1 c2
          go_loopw [5] (EvRel okE x.args w1) (fun s _ => xq4 - (intOf s).toNat)
          case atStart => exact ⟨0, rfl, Nat.zero_le _, fun k x hk => absurd hk (by omega), Ext.refl _⟩
          case round =>
            obtain ⟨j, rfl, hj, hall, hext⟩ := hrel
            rw [← HN.out] at hj
            replace c3 := hext.cell c3
            have HX := Lib.hid hext
            have HA := Lib.hid hall
            clear hext hall
            by_cases hlt : j < xq4
            · obtain ⟨u, hxj⟩ := getE (l := x.args) (i := j) (by rw [← HN.out]; exact hlt)
              obtain ⟨⟨b, o, rfl, k0, k1, k2, k3⟩, hin⟩ := (HL.out.to (HX1.out.trans HX.out)).at hxj
              have PC := IH.out j u hxj
              obtain ⟨B, hB⟩ : ∃ B, B = okE u := ⟨_, rfl⟩
              rw [← hB] at PC
              have HB := Lib.hid hB
              have HXJ := Lib.hid hxj
              have HIN := Lib.hid hin
              clear hin hxj hB
              unfold E.v at PC
              obtain ⟨uq0, huq0⟩ : ∃ q, q = u.op := ⟨_, rfl⟩
              obtain ⟨uq1, huq1⟩ : ∃ q, q = u.val := ⟨_, rfl⟩
              obtain ⟨uq2, huq2⟩ : ∃ q, q = u.name := ⟨_, rfl⟩
              obtain ⟨uq3, huq3⟩ : ∃ q, q = u.a := ⟨_, rfl⟩
              obtain ⟨uq4, huq4⟩ : ∃ q, q = u.args.length := ⟨_, rfl⟩
              obtain ⟨uq5, huq5⟩ : ∃ q, q = u.cap := ⟨_, rfl⟩
              simp only [← huq0, ← huq1, ← huq2, ← huq3, ← huq4, ← huq5] at k0 k1 k2 k3 PC
              clear huq0 huq1 huq2 huq3 huq4 huq5
              replace PC := Lib.hid PC
              go_wp2_with fail
              refine (PC.out _ HIN.out).mono ?_; rintro e w2 ⟨rfl, x2⟩
              have X2 := Lib.hid (HX.out.trans x2)
              clear x2 k0 k1 k2 k3 c3
              cases B
              · have X := HX1.out.trans X2.out
                go_wp2_with fail
                go_ret
                exact ⟨by rw [EL.out, evNot HXJ.out HB.out.symm]; rfl, X⟩
              · go_wp2_with fail
                go_roundw
                case rel => exact ⟨j + 1, by go_num, by rw [← HN.out]; omega, evStep HXJ.out HB.out.symm HA.out, X2.out⟩
                case measure => simp [intOf]; omega
            · obtain rfl : j = xq4 := by omega
              have X := HX1.out.trans HX.out
              go_wp2_with fail
              go_ret
              exact ⟨by rw [EL.out, evAll HN.out.symm HA.out]; rfl, X⟩
theorem RExpr_c (x : E) (w : World) (h : InE w x) : Calls Tryd.prog 68 #[x.v] w fun r w' => r = .returned (.bool (okE x)) ∧ Ext w w' := RExpr_n _ x (Nat.lt_succ_self _) w h
end Go.Proofs.YtcheigpejbmaoaaDoor
