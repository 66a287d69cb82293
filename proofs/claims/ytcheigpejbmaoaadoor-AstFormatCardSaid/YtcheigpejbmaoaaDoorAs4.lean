/- Is an expression well-formed? Printed by gen/as4.py. -/
import Derived.Test.YtcheigpejbmaoaaDoorAs3
namespace Go.Proofs.YtcheigpejbmaoaaDoor
open Go.RowKit
def EvRel {T : Type} (p : T → Bool) (l : List T) (w1 : World) (s : Value) (wr : World) : Prop := ∃ j : Nat, s = .int .i64 j ∧ j ≤ l.length ∧ (∀ (k : Nat) x, k < j → l[k]? = some x → p x = true) ∧ Ext w1 wr
theorem evAll {T : Type} {p : T → Bool} {l : List T} {n : Nat} (hn : l.length = n) (h : ∀ (k : Nat) x, k < n → l[k]? = some x → p x = true) : l.all p = true := by
  rw [List.all_eq_true]
  intro u hu
  obtain ⟨k, hk, rfl⟩ := List.mem_iff_getElem.1 hu
  exact h k _ (by omega) (List.getElem?_eq_getElem hk)
theorem evNot {T : Type} {p : T → Bool} {l : List T} {j : Nat} {x : T} (hx : l[j]? = some x) (h : p x = false) : l.all p = false := by
  rw [List.all_eq_false]
  exact ⟨x, List.mem_of_getElem? hx, by rw [h]; decide⟩
theorem evStep {T : Type} {p : T → Bool} {l : List T} {j : Nat} {x : T} (hx : l[j]? = some x) (h : p x = true) (ha : ∀ (k : Nat) x, k < j → l[k]? = some x → p x = true) : ∀ (k : Nat) x, k < j + 1 → l[k]? = some x → p x = true := fun k v hk hv => by
  rcases Nat.lt_or_ge k j with q | q
  · exact ha k v q hv
  · obtain rfl : k = j := by omega
    rw [hx] at hv
    injection hv with hv
    rw [← hv]; exact h
set_option maxHeartbeats 2000000 in
theorem everyE_c (p : E → Bool) (l : List E) (n : Nat) (hn : l.length = n) (a : Option Addr) (c : Nat) (w : World) (hl : InL w a l) (hp : ∀ (i : Nat) x, l[i]? = some x → ∀ w', InE w' x → Calls Tryd.prog 55 #[x.v] w' fun r w2 => r = .returned (.bool (p x)) ∧ Ext w' w2) :
    Calls Tryd.prog 79 #[.slice a n c, .func (.func 55) #[] #[]] w fun r w' => r = .returned (.bool (l.all p)) ∧ Ext w w' := by
  have HL := Lib.hid hl
  have HP := Lib.hid hp
  have hcap := hl.2
  rw [hn] at hcap
  have HN := Lib.hid hn
  clear hl hp hn
  go_enter Tryd.func79, Tryd.ntmps79
  go_wp2_with fail
  go_loopw [9] (EvRel p l w) (fun s _ => n - (intOf s).toNat)
  case atStart => exact ⟨0, rfl, Nat.zero_le _, fun k x hk => absurd hk (by omega), Ext.refl _⟩
  case round =>
    obtain ⟨j, rfl, hj, hall, hext⟩ := hrel
    rw [HN.out] at hj
    have HX := Lib.hid hext
    have HA := Lib.hid hall
    clear hext hall
    by_cases hlt : j < n
    · obtain ⟨x, hxj⟩ := getE (l := l) (i := j) (by rw [HN.out]; exact hlt)
      obtain ⟨⟨b, o, rfl, k0, k1, k2, k3⟩, hin⟩ := (HL.out.to HX.out).at hxj
      have PC := HP.out j x hxj
      unfold E.v at PC
      have HXJ := Lib.hid hxj
      clear hxj
      obtain ⟨xo, hxo⟩ : ∃ q, q = x.op := ⟨_, rfl⟩
      obtain ⟨xv, hxv⟩ : ∃ q, q = x.val := ⟨_, rfl⟩
      obtain ⟨xn, hxn⟩ : ∃ q, q = x.name := ⟨_, rfl⟩
      obtain ⟨xa, hxa⟩ : ∃ q, q = x.a := ⟨_, rfl⟩
      obtain ⟨xl, hxl⟩ : ∃ q, q = x.args.length := ⟨_, rfl⟩
      obtain ⟨xc, hxc⟩ : ∃ q, q = x.cap := ⟨_, rfl⟩
      rw [← hxo] at k0
      rw [← hxv] at k1
      rw [← hxn] at k2
      rw [← hxa, ← hxl, ← hxc] at k3
      rw [← hxo, ← hxv, ← hxn, ← hxa, ← hxl, ← hxc] at PC
      clear hxo hxv hxn hxa hxl hxc
      have HPC := Lib.hid PC
      have HIN := Lib.hid hin
      clear hin PC
      go_wp2_with fail
      refine (HPC.out _ (HIN.out.to ((Ext.refl _).alloc _))).mono ?_; rintro e w2 ⟨rfl, x2⟩
      have X2 := Lib.hid (HX.out.trans x2.box)
      clear x2 k0 k1 k2 k3
      cases hb : p x
      · have HB := Lib.hid hb
        clear hb
        go_wp2_with fail
        go_ret
        exact ⟨by rw [evNot HXJ.out HB.out]; rfl, X2.out⟩
      · have HB := Lib.hid hb
        clear hb
        go_wp2_with fail
        go_roundw
        case rel => exact ⟨j + 1, by go_num, by rw [HN.out]; omega, evStep HXJ.out HB.out HA.out, X2.out⟩
        case measure => simp [intOf]; omega
    · obtain rfl : j = n := by omega
      go_wp2_with fail
      go_ret
      exact ⟨by rw [evAll HN.out HA.out]; rfl, HX.out⟩
/-- The shape of an expression: its operator, whether it has no name, no value, a good name; how many operands. -/
def okSh (op : Int) (un uv nm : Bool) (n : Nat) : Bool :=
  if op = 1 then decide (n = 0) && un
  else if op = 2 then decide (n = 0) && uv && nm
  else if op = 3 ∨ op = 4 then decide (n = 0) && uv && un
  else if op = 5 then uv && nm
  else if op = 6 then decide (1 ≤ n) && un
  else if op = 7 then decide (1 ≤ n) && uv && un
  else if op = 9 ∨ op = 10 then decide (n = 1) && uv && un
  else if op = 20 then decide (n = 3) && uv && un
  else if op = 8 ∨ (11 ≤ op ∧ op ≤ 19) then decide (n = 2) && uv && un
  else false
mutual
/-- Is it well-formed? -/
def okE : E → Bool
  | .mk op v nm _ _ l => okEs l && okSh op (decide (nm.size = 0)) (decide (v = 0)) (nameOk nm) l.length
def okEs : List E → Bool
  | [] => true
  | e :: l => okE e && okEs l
end
theorem okEs_all : ∀ l, okEs l = l.all okE
  | [] => rfl
  | e :: l => by show (okE e && okEs l) = (okE e && l.all okE); rw [okEs_all l]
theorem okE_eq (e : E) : okE e = (e.args.all okE && okSh e.op (decide (e.name.size = 0)) (decide (e.val = 0)) (nameOk e.name) e.args.length) := by
  obtain ⟨o, v, n, a, c, l⟩ := e
  rw [← okEs_all]; rfl
set_option maxRecDepth 100000 in
set_option maxHeartbeats 8000000 in
theorem isExpr_n : ∀ (m : Nat) (e : E), E.sz e < m → ∀ w, InE w e → Calls Tryd.prog 55 #[e.v] w fun r w' => r = .returned (.bool (okE e)) ∧ Ext w w' := by
  intro m
  induction m with
  | zero => intro e h; exact absurd h (by omega)
  | succ m ih =>
    intro e hm w he
    have IH := Lib.hid ih
    clear ih
    have EV := Lib.hid (fun w' h => everyE_c okE e.args e.args.length rfl e.a e.cap w' h (fun i x hx w2 h2 => IH.out x (by have := E.sz_arg hx; omega) w2 h2))
    have NC := Lib.hid (IsName_c e.name)
    rw [okE_eq]
    have HL := Lib.hid he.l
    have hcap := he.l.2
    have te := toL_empty e.name
    unfold E.v
    obtain ⟨op, hop⟩ : ∃ q, q = e.op := ⟨_, rfl⟩
    obtain ⟨v, hv⟩ : ∃ q, q = e.val := ⟨_, rfl⟩
    obtain ⟨s, hs⟩ : ∃ q, q = e.name := ⟨_, rfl⟩
    obtain ⟨a, ha⟩ : ∃ q, q = e.a := ⟨_, rfl⟩
    obtain ⟨c, hc⟩ : ∃ q, q = e.cap := ⟨_, rfl⟩
    obtain ⟨n, hn⟩ : ∃ q, q = e.args.length := ⟨_, rfl⟩
    obtain ⟨A, hA⟩ : ∃ q, q = e.args.all okE := ⟨_, rfl⟩
    obtain ⟨nm, hnm⟩ : ∃ q, q = nameOk e.name := ⟨_, rfl⟩
    rw [← ha, ← hc, ← hn, ← hA] at EV
    rw [← hnm] at NC ⊢
    rw [← hs] at NC te
    rw [← hn] at hcap
    rw [← ha] at HL
    rw [← hop, ← hv, ← hs, ← ha, ← hc, ← hn, ← hA]
    obtain ⟨un, hun⟩ : ∃ q, q = decide (s.size = 0) := ⟨_, rfl⟩
    rw [← hun] at te ⊢
    have tv : ((v : Int) == 0) = decide (v = 0) := by
      by_cases h : v = 0
      · subst h; rfl
      · rw [decide_eq_false h, beq_eq_false_iff_ne]; omega
    obtain ⟨uv, huv⟩ : ∃ q, q = decide (v = 0) := ⟨_, rfl⟩
    rw [← huv] at tv ⊢
    clear IH hop hv hs ha hc hn hA hnm hun huv he hm
    go_enter Tryd.func55, Tryd.ntmps55
    go_wp2_with fail
    refine (EV.out _ (HL.out.to ((Ext.refl _).alloc _))).mono ?_; rintro e1 w1 ⟨rfl, x1⟩
    have c0 : w1.cell? ⟨w.heap.size, 0, none⟩ = some (.int .i64 op) := x1.cell (by simp)
    have c1 : w1.cell? ⟨w.heap.size, 1, none⟩ = some (.int .u64 (v : Int)) := x1.cell (by simp)
    have c2 : w1.cell? ⟨w.heap.size, 2, none⟩ = some (.string s) := x1.cell (by simp)
    have c3 : w1.cell? ⟨w.heap.size, 3, none⟩ = some (.slice a n c) := x1.cell (by simp)
    have X := x1.box
    clear x1 EV HL
    cases A
    · go_wp2_with fail
      go_ret
      exact ⟨rfl, X⟩
    · go_wp2_with fail
      refine region_factsL [[], [(0, 10)], [(1, 11)], [], [(3, 13)], [(4, 14)], [], [(6, 16)], [(7, 17)], [(2, 12)], [(5, 15)], [(8, 18)]] [some 10, some 11, some 12, some 13, some 14, some 15, some 16, some 17, some 18, some 3, some 4, some 5] [false, true, false, false, false, false, false, false, false, false, false, false, false, false, false, false, false, false, false, false, false, false, false, false, false, false, false, false, false, false, false, false, false, false, false, false, false, false, false, false, false, false, false, false, false, false, false, false, false, false, false, false, false, false, false, false, false, false, false, false, false, false, false, false, false, false, false, false, false, false, false, false, false, false, false, false, false, false, false, false, false, false, false, false, false, false, false, false, false, false, false, false, false, false, false, false, false, false, false, false, false, false, false, false, false, false, false, false, false, false, false, false, false, false, false, false] (by kernel_rfl) (by kernel_rfl) (by kernel_rfl) ?_
      dsimp only [maskL]
      with_reducible apply FromM.eq
      · intro w' hx; (try dsimp only [List.nil_append, List.cons_append, DepsL, DepsL1, setO, setN, favs, opsOf]); go_wp2; exact OpPostE.some _ rfl rfl (Ext.refl _) rfl
      with_reducible apply FromM.eq
      · intro w' hx; have c0x := hx.cell c0; have c1x := hx.cell c1; have c2x := hx.cell c2; have c3x := hx.cell c3; (try dsimp only [List.nil_append, List.cons_append, DepsL, DepsL1, setO, setN, favs, opsOf]); go_wp2; exact OpPostE.some _ rfl rfl (Ext.refl _) rfl
      with_reducible apply FromM.eq
      · intro w' hx; have c0x := hx.cell c0; have c1x := hx.cell c1; have c2x := hx.cell c2; have c3x := hx.cell c3; (try dsimp only [List.nil_append, List.cons_append, DepsL, DepsL1, setO, setN, favs, opsOf]); go_wp2; exact OpPostE.some _ rfl rfl (Ext.refl _) rfl
      with_reducible apply FromM.eq
      · intro w' hx; (try dsimp only [List.nil_append, List.cons_append, DepsL, DepsL1, setO, setN, favs, opsOf]); go_wp2; exact OpPostE.some _ rfl rfl (Ext.refl _) rfl
      with_reducible apply FromM.eq
      · intro w' hx; have c0x := hx.cell c0; have c1x := hx.cell c1; have c2x := hx.cell c2; have c3x := hx.cell c3; (try dsimp only [List.nil_append, List.cons_append, DepsL, DepsL1, setO, setN, favs, opsOf]); go_wp2; exact OpPostE.some _ rfl rfl (Ext.refl _) rfl
      with_reducible apply FromM.eq
      · intro w' hx; (try dsimp only [List.nil_append, List.cons_append, DepsL, DepsL1, setO, setN, favs, opsOf]); go_wp2; exact OpPostE.some _ rfl rfl (Ext.refl _) rfl
      with_reducible apply FromM.eq
      · intro w' hx; (try dsimp only [List.nil_append, List.cons_append, DepsL, DepsL1, setO, setN, favs, opsOf]); go_wp2; exact OpPostE.some _ rfl rfl (Ext.refl _) rfl
      with_reducible apply FromM.eq
      · intro w' hx; have c0x := hx.cell c0; have c1x := hx.cell c1; have c2x := hx.cell c2; have c3x := hx.cell c3; (try dsimp only [List.nil_append, List.cons_append, DepsL, DepsL1, setO, setN, favs, opsOf]); go_wp2; exact OpPostE.some _ rfl rfl (Ext.refl _) rfl
      with_reducible apply FromM.eq
      · intro w' hx; (try dsimp only [List.nil_append, List.cons_append, DepsL, DepsL1, setO, setN, favs, opsOf]); go_wp2; exact OpPostE.some _ rfl rfl (Ext.refl _) rfl
      with_reducible apply FromM.eq
      · intro w' hx; (try dsimp only [List.nil_append, List.cons_append, DepsL, DepsL1, setO, setN, favs, opsOf]); go_wp2; exact OpPostE.some _ rfl rfl (Ext.refl _) rfl
      with_reducible apply FromM.eq
      · intro w' hx; (try dsimp only [List.nil_append, List.cons_append, DepsL, DepsL1, setO, setN, favs, opsOf]); go_wp2; exact OpPostE.some _ rfl rfl (Ext.refl _) rfl
      with_reducible apply FromM.eq
      · intro w' hx; (try dsimp only [List.nil_append, List.cons_append, DepsL, DepsL1, setO, setN, favs, opsOf]); go_wp2; exact OpPostE.some _ rfl rfl (Ext.refl _) rfl
      with_reducible refine FromM.fin ?_
      intro w' hx
      (try dsimp only [List.nil_append, List.cons_append, EndL, DepsL1, setO, setN])
      replace c0 := hx.cell c0
      replace c2 := hx.cell c2
      replace X := X.trans hx
      clear hx c1 c3 te tv
      by_cases h1 : op = 1
      · subst h1
        go_wp2_with (go_at_call 61; refine (NC.out _).mono ?_; rintro e w4 ⟨rfl, x4⟩)
        all_goals (go_ret; refine ⟨?_, by first | exact X | exact X.trans x4⟩; go_light; simp [okSh, *] <;> (intros; omega))
      have t1 : (op == 1) = false := beq_eq_false_iff_ne.2 h1
      by_cases h2 : op = 2
      · subst h2
        go_wp2_with (go_at_call 61; refine (NC.out _).mono ?_; rintro e w4 ⟨rfl, x4⟩)
        all_goals (go_ret; refine ⟨?_, by first | exact X | exact X.trans x4⟩; go_light; simp [okSh, *] <;> (intros; omega))
      have t2 : (op == 2) = false := beq_eq_false_iff_ne.2 h2
      by_cases h3 : op = 3
      · subst h3
        go_wp2_with (go_at_call 61; refine (NC.out _).mono ?_; rintro e w4 ⟨rfl, x4⟩)
        all_goals (go_ret; refine ⟨?_, by first | exact X | exact X.trans x4⟩; go_light; simp [okSh, *] <;> (intros; omega))
      have t3 : (op == 3) = false := beq_eq_false_iff_ne.2 h3
      by_cases h4 : op = 4
      · subst h4
        go_wp2_with (go_at_call 61; refine (NC.out _).mono ?_; rintro e w4 ⟨rfl, x4⟩)
        all_goals (go_ret; refine ⟨?_, by first | exact X | exact X.trans x4⟩; go_light; simp [okSh, *] <;> (intros; omega))
      have t4 : (op == 4) = false := beq_eq_false_iff_ne.2 h4
      by_cases h5 : op = 5
      · subst h5
        go_wp2_with (go_at_call 61; refine (NC.out _).mono ?_; rintro e w4 ⟨rfl, x4⟩)
        all_goals (go_ret; refine ⟨?_, by first | exact X | exact X.trans x4⟩; go_light; simp [okSh, *] <;> (intros; omega))
      have t5 : (op == 5) = false := beq_eq_false_iff_ne.2 h5
      by_cases h6 : op = 6
      · subst h6
        go_wp2_with (go_at_call 61; refine (NC.out _).mono ?_; rintro e w4 ⟨rfl, x4⟩)
        all_goals (go_ret; refine ⟨?_, by first | exact X | exact X.trans x4⟩; go_light; simp [okSh, *] <;> (intros; omega))
      have t6 : (op == 6) = false := beq_eq_false_iff_ne.2 h6
      by_cases h7 : op = 7
      · subst h7
        go_wp2_with (go_at_call 61; refine (NC.out _).mono ?_; rintro e w4 ⟨rfl, x4⟩)
        all_goals (go_ret; refine ⟨?_, by first | exact X | exact X.trans x4⟩; go_light; simp [okSh, *] <;> (intros; omega))
      have t7 : (op == 7) = false := beq_eq_false_iff_ne.2 h7
      by_cases h9 : op = 9
      · subst h9
        go_wp2_with (go_at_call 61; refine (NC.out _).mono ?_; rintro e w4 ⟨rfl, x4⟩)
        all_goals (go_ret; refine ⟨?_, by first | exact X | exact X.trans x4⟩; go_light; simp [okSh, *] <;> (intros; omega))
      have t9 : (op == 9) = false := beq_eq_false_iff_ne.2 h9
      by_cases h10 : op = 10
      · subst h10
        go_wp2_with (go_at_call 61; refine (NC.out _).mono ?_; rintro e w4 ⟨rfl, x4⟩)
        all_goals (go_ret; refine ⟨?_, by first | exact X | exact X.trans x4⟩; go_light; simp [okSh, *] <;> (intros; omega))
      have t10 : (op == 10) = false := beq_eq_false_iff_ne.2 h10
      by_cases h20 : op = 20
      · subst h20
        go_wp2_with (go_at_call 61; refine (NC.out _).mono ?_; rintro e w4 ⟨rfl, x4⟩)
        all_goals (go_ret; refine ⟨?_, by first | exact X | exact X.trans x4⟩; go_light; simp [okSh, *] <;> (intros; omega))
      have t20 : (op == 20) = false := beq_eq_false_iff_ne.2 h20
      by_cases h8 : op = 8
      · subst h8
        go_wp2_with (go_at_call 61; refine (NC.out _).mono ?_; rintro e w4 ⟨rfl, x4⟩)
        all_goals (go_ret; refine ⟨?_, by first | exact X | exact X.trans x4⟩; go_light; simp [okSh, *] <;> (intros; omega))
      have t8 : (op == 8) = false := beq_eq_false_iff_ne.2 h8
      by_cases h11 : op = 11
      · subst h11
        go_wp2_with (go_at_call 61; refine (NC.out _).mono ?_; rintro e w4 ⟨rfl, x4⟩)
        all_goals (go_ret; refine ⟨?_, by first | exact X | exact X.trans x4⟩; go_light; simp [okSh, *] <;> (intros; omega))
      have t11 : (op == 11) = false := beq_eq_false_iff_ne.2 h11
      by_cases h12 : op = 12
      · subst h12
        go_wp2_with (go_at_call 61; refine (NC.out _).mono ?_; rintro e w4 ⟨rfl, x4⟩)
        all_goals (go_ret; refine ⟨?_, by first | exact X | exact X.trans x4⟩; go_light; simp [okSh, *] <;> (intros; omega))
      have t12 : (op == 12) = false := beq_eq_false_iff_ne.2 h12
      by_cases h13 : op = 13
      · subst h13
        go_wp2_with (go_at_call 61; refine (NC.out _).mono ?_; rintro e w4 ⟨rfl, x4⟩)
        all_goals (go_ret; refine ⟨?_, by first | exact X | exact X.trans x4⟩; go_light; simp [okSh, *] <;> (intros; omega))
      have t13 : (op == 13) = false := beq_eq_false_iff_ne.2 h13
      by_cases h14 : op = 14
      · subst h14
        go_wp2_with (go_at_call 61; refine (NC.out _).mono ?_; rintro e w4 ⟨rfl, x4⟩)
        all_goals (go_ret; refine ⟨?_, by first | exact X | exact X.trans x4⟩; go_light; simp [okSh, *] <;> (intros; omega))
      have t14 : (op == 14) = false := beq_eq_false_iff_ne.2 h14
      by_cases h15 : op = 15
      · subst h15
        go_wp2_with (go_at_call 61; refine (NC.out _).mono ?_; rintro e w4 ⟨rfl, x4⟩)
        all_goals (go_ret; refine ⟨?_, by first | exact X | exact X.trans x4⟩; go_light; simp [okSh, *] <;> (intros; omega))
      have t15 : (op == 15) = false := beq_eq_false_iff_ne.2 h15
      by_cases h16 : op = 16
      · subst h16
        go_wp2_with (go_at_call 61; refine (NC.out _).mono ?_; rintro e w4 ⟨rfl, x4⟩)
        all_goals (go_ret; refine ⟨?_, by first | exact X | exact X.trans x4⟩; go_light; simp [okSh, *] <;> (intros; omega))
      have t16 : (op == 16) = false := beq_eq_false_iff_ne.2 h16
      by_cases h17 : op = 17
      · subst h17
        go_wp2_with (go_at_call 61; refine (NC.out _).mono ?_; rintro e w4 ⟨rfl, x4⟩)
        all_goals (go_ret; refine ⟨?_, by first | exact X | exact X.trans x4⟩; go_light; simp [okSh, *] <;> (intros; omega))
      have t17 : (op == 17) = false := beq_eq_false_iff_ne.2 h17
      by_cases h18 : op = 18
      · subst h18
        go_wp2_with (go_at_call 61; refine (NC.out _).mono ?_; rintro e w4 ⟨rfl, x4⟩)
        all_goals (go_ret; refine ⟨?_, by first | exact X | exact X.trans x4⟩; go_light; simp [okSh, *] <;> (intros; omega))
      have t18 : (op == 18) = false := beq_eq_false_iff_ne.2 h18
      by_cases h19 : op = 19
      · subst h19
        go_wp2_with (go_at_call 61; refine (NC.out _).mono ?_; rintro e w4 ⟨rfl, x4⟩)
        all_goals (go_ret; refine ⟨?_, by first | exact X | exact X.trans x4⟩; go_light; simp [okSh, *] <;> (intros; omega))
      have t19 : (op == 19) = false := beq_eq_false_iff_ne.2 h19
      have HS : Hid (okSh op un uv nm n = false) := Lib.hid (by
        unfold okSh
        rw [if_neg (h1)]
        rw [if_neg (h2)]
        rw [if_neg (by omega)]
        rw [if_neg (h5)]
        rw [if_neg (h6)]
        rw [if_neg (h7)]
        rw [if_neg (by omega)]
        rw [if_neg (h20)]
        rw [if_neg (by omega)]
        )
      clear h1 h2 h3 h4 h5 h6 h7 h9 h10 h20 h8 h11 h12 h13 h14 h15 h16 h17 h18 h19
      go_wp2_with fail
      go_ret
      exact ⟨by rw [HS.out]; rfl, X⟩
theorem isExpr_c (e : E) (w : World) (h : InE w e) : Calls Tryd.prog 55 #[e.v] w fun r w' => r = .returned (.bool (okE e)) ∧ Ext w w' := isExpr_n _ e (Nat.lt_succ_self _) w h
end Go.Proofs.YtcheigpejbmaoaaDoor
