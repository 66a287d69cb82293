/- Walk of CodeFold. -/
import Derived.Test.YtgnngifnoaagjaaCL3
import Derived.Test.YtgnngifnoaagjaaGE
import Derived.Test.YtgnngifnoaagjaaSlV
namespace Go.Proofs.Ytgnngifnoaagjaa
open Go.RowKit
theorem shL_le {L : List SlC} (h : shL L = true) : ∀ i, i < L.length → (L.getD i (none, 0, 0)).2.1 ≤ 300 := of_decide_eq_true h
theorem shB_L {p : Nat} {n k : Int} {L : List SlC} (h : shB p n k L = true) : shL L = true := by
  unfold shB at h
  rw [Bool.and_eq_true] at h
  exact h.1
theorem cFold_le {p : Nat} {rows : List (List Nat)} {cs : List Nat} : (cFold p rows cs).length ≤ (rows.getD 0 []).length := by
  unfold cFold
  split
  · rw [tab_len]; exact Nat.le_refl _
  · simp
def MiRel (rows : List (List Nat)) (w1 : World) (v7 v44 : Value) (wr : World) : Prop :=
  ∃ (j : Nat) (L : List SlC), v44 = .int .i64 j ∧ j ≤ rows.length ∧ OwnV wr w1.heap.size v7 L ∧ Rows2 wr L (rows.take j) ∧ (∀ i, i < L.length → Off v7 wr.heap.size (L.getD i (none, 0, 0)).1) ∧ Ext w1 wr
def TwoF (x y : SlC) : Fact := fun w v => ∃ g, v = .slice (some ⟨g, 0, none⟩) 2 2 ∧ w.cell? ⟨g, 0, none⟩ = some (celV x) ∧ w.cell? ⟨g, 1, none⟩ = some (celV y)
theorem TwoF.mono {x y : SlC} : Mono (TwoF x y) := fun _ _ _ hx ⟨g, hv, hc, hd⟩ => ⟨g, hv, hx.cell hc, hx.cell hd⟩
theorem short_n (p : Nat) (n k : Int) (L : List SlC) (N : Nat) (hN : L.length = N) (a : Option Addr) (c : Nat) (b : Bool) (hb : shB p n k L = b) (w : World) (ha : RdV w a L) (hl : N ≤ 1000000) (hn : n ≤ 9223372036854775807) (hn2 : -9223372036854775808 ≤ n) :
    Calls Try.prog 13 #[.agg #[.int .u64 p, .int .i64 n, .int .i64 k], .slice a N c] w fun e w' => e = .returned (.bool b) ∧ Ext w w' := by
  subst hN hb
  exact short_c p n k L a c w ha hl hn hn2
theorem foldTwo_c (p : Nat) (x y cs : List Nat) (N : Nat) (hx : x.length = N) (hN : N ≤ 1000) (hc : 2 ≤ cs.length) (g : Nat) (A B C : Option Addr) (ca cb cc : Nat) (w : World) (h0 : w.cell? ⟨g, 0, none⟩ = some (celV (A, x.length, ca))) (h1 : w.cell? ⟨g, 1, none⟩ = some (celV (B, y.length, cb))) (hA : Rd w A x) (hB : Rd w B y) (hC : Rd w C cs) :
    Calls Try.prog 32 #[.int .u64 p, .slice (some ⟨g, 0, none⟩) 2 2, .slice C 2 cc] w (SlPost w (cFold p [x, y] [cs.getD 0 0, cs.getD 1 0])) := by
  have e : cs.take 2 = [cs.getD 0 0, cs.getD 1 0] := by
    match cs, hc with
    | c0 :: c1 :: r, _ => simp
  have hl : (cs.take 2).length = 2 := by simp; omega
  have := Fold_c p [x, y] (cs.take 2) (some ⟨g, 0, none⟩) C 2 cc w ((Rows2.two hA hB).rdR (RdV.two h0 h1)) (hC.take 2) (by simp) (by simp; omega)
  rw [hl, e] at this
  exact this

set_option maxRecDepth 100000 in
set_option maxHeartbeats 8000000 in
theorem CodeFold_w (p : Nat) (n k e : Int) (l m cs : List Nat) (rows : List (List Nat)) (L : List SlC) (a b ra ca : Option Addr) (c f rc cc : Nat) (w : World) (ha : Rd w a l) (hb : Rd w b m) (hV : RdV w ra L) (hR : Rows2 w L rows) (hcs : Rd w ca cs) (hn : n ≤ 9223372036854775807) (hn2 : -9223372036854775808 ≤ n)
    (hrl : rows.length ≤ 9223372036854775807) (hcl : cs.length ≤ 9223372036854775807) (hcc : cs.length ≤ cc) :
    Calls Try.prog 9 #[.agg #[.int .u64 p, .int .i64 n, .int .i64 k, .slice a l.length c, .slice b m.length f, .int .i64 e], .slice ra rows.length rc, .slice ca cs.length cc] w fun e w' => e = .returned (.bool true) ∧ Ext w w' := by
  have HA := Lib.hid ha
  have HB := Lib.hid hb
  have HV := Lib.hid hV
  have HR := Lib.hid hR
  have HCS := Lib.hid hcs
  clear ha hb hV hR hcs
  have h0 : (w.alloc (.cells #[.int .u64 p, .int .i64 n, .int .i64 k, .slice a l.length c, .slice b m.length f, .int .i64 e] 45)).cell? ⟨w.heap.size, 0, none⟩ = some (.int .u64 p) := by simp
  have h1 : (w.alloc (.cells #[.int .u64 p, .int .i64 n, .int .i64 k, .slice a l.length c, .slice b m.length f, .int .i64 e] 45)).cell? ⟨w.heap.size, 1, none⟩ = some (.int .i64 n) := by simp
  have h2 : (w.alloc (.cells #[.int .u64 p, .int .i64 n, .int .i64 k, .slice a l.length c, .slice b m.length f, .int .i64 e] 45)).cell? ⟨w.heap.size, 2, none⟩ = some (.int .i64 k) := by simp
  have h3 : (w.alloc (.cells #[.int .u64 p, .int .i64 n, .int .i64 k, .slice a l.length c, .slice b m.length f, .int .i64 e] 45)).cell? ⟨w.heap.size, 3, none⟩ = some (.slice a l.length c) := by simp
  have h4 : (w.alloc (.cells #[.int .u64 p, .int .i64 n, .int .i64 k, .slice a l.length c, .slice b m.length f, .int .i64 e] 45)).cell? ⟨w.heap.size, 4, none⟩ = some (.slice b m.length f) := by simp
  have h5 : (w.alloc (.cells #[.int .u64 p, .int .i64 n, .int .i64 k, .slice a l.length c, .slice b m.length f, .int .i64 e] 45)).cell? ⟨w.heap.size, 5, none⟩ = some (.int .i64 e) := by simp
  by_cases h12 : rows.length ≤ 12
  case neg =>
    go_enter Try.func9, Try.ntmps9
    go_wp2_with fail
    refine (awake6_c _).mono ?_; rintro e w1 ⟨rfl, x0⟩
    replace h0 := x0.cell h0
    replace h1 := x0.cell h1
    replace h2 := x0.cell h2
    replace h3 := x0.cell h3
    replace h4 := x0.cell h4
    replace h5 := x0.cell h5
    have X := x0.box
    clear x0
    go_wp2_with fail
    go_ret
    exact ⟨rfl, X⟩
  by_cases h20 : cs.length ≤ 20
  case neg =>
    go_enter Try.func9, Try.ntmps9
    go_wp2_with fail
    refine (awake6_c _).mono ?_; rintro e w1 ⟨rfl, x0⟩
    replace h0 := x0.cell h0
    replace h1 := x0.cell h1
    replace h2 := x0.cell h2
    replace h3 := x0.cell h3
    replace h4 := x0.cell h4
    replace h5 := x0.cell h5
    have X := x0.box
    clear x0
    go_wp2_with fail
    go_ret
    exact ⟨rfl, X⟩
  cases hs1 : shB p n k L
  case false =>
    have SC := Lib.hid (fun w' (h : RdV w' ra L) => short_n p n k L rows.length HR.out.1 ra rc false hs1 w' h (by omega) hn hn2)
    clear hs1
    go_enter Try.func9, Try.ntmps9
    go_wp2_with fail
    refine (awake6_c _).mono ?_; rintro e w1 ⟨rfl, x0⟩
    replace h0 := x0.cell h0
    replace h1 := x0.cell h1
    replace h2 := x0.cell h2
    replace h3 := x0.cell h3
    replace h4 := x0.cell h4
    replace h5 := x0.cell h5
    have X := x0.box
    clear x0
    go_wp2_with fail
    refine (SC.out _ (HV.out.ext X)).mono ?_; rintro e w2 ⟨rfl, x⟩
    replace h0 := x.cell h0
    replace h1 := x.cell h1
    replace h2 := x.cell h2
    replace h3 := x.cell h3
    replace h4 := x.cell h4
    replace h5 := x.cell h5
    replace X := X.trans x
    clear x
    go_wp2_with fail
    go_ret
    exact ⟨rfl, X⟩
  have SC := Lib.hid (fun w' (h : RdV w' ra L) => short_n p n k L rows.length HR.out.1 ra rc true hs1 w' h (by omega) hn hn2)
  cases hs2 : shB p n k [(a, l.length, c), (b, m.length, f)]
  case false =>
    have SC2 := Lib.hid (short2 p n k a b l.length c m.length f false hs2 hn hn2)
    clear hs1 hs2
    go_enter Try.func9, Try.ntmps9
    go_wp2_with fail
    refine (awake6_c _).mono ?_; rintro e w1 ⟨rfl, x0⟩
    replace h0 := x0.cell h0
    replace h1 := x0.cell h1
    replace h2 := x0.cell h2
    replace h3 := x0.cell h3
    replace h4 := x0.cell h4
    replace h5 := x0.cell h5
    have X := x0.box
    clear x0
    go_wp2_with fail
    refine (SC.out _ (HV.out.ext X)).mono ?_; rintro e w2 ⟨rfl, x⟩
    replace h0 := x.cell h0
    replace h1 := x.cell h1
    replace h2 := x.cell h2
    replace h3 := x.cell h3
    replace h4 := x.cell h4
    replace h5 := x.cell h5
    replace X := X.trans x
    clear x
    go_wp2_with fail
    refine (SC2.out _ _ (by simp) (by simp)).mono ?_; rintro e w3 ⟨rfl, x⟩
    replace h0 := x.box.cell h0
    replace h1 := x.box.cell h1
    replace h2 := x.box.cell h2
    replace h3 := x.box.cell h3
    replace h4 := x.box.cell h4
    replace h5 := x.box.cell h5
    replace X := X.trans x.box
    clear x
    go_wp2_with fail
    go_ret
    exact ⟨rfl, X⟩
  have SC2 := Lib.hid (short2 p n k a b l.length c m.length f true hs2 hn hn2)
  have hlen := sh2_len hs2
  have HLE := Lib.hid (shL_le (shB_L hs1))
  have OC := fun (l : List Nat) (hl : l.length ≤ 300) w' (a : Option Addr) (c : Nat) (h : Rd w' a l) => own_c l a c w' h (by omega)
  have OCA := Lib.hid (OC l hlen.1)
  have OCB := Lib.hid (OC m hlen.2)
  have OCC := Lib.hid (OC cs (by omega))
  have HOC := Lib.hid OC
  have hM : (rows.getD 0 []).length ≤ 300 := by
    rcases Nat.eq_zero_or_pos rows.length with e | e
    · rw [List.eq_nil_of_length_eq_zero e]; simp
    · have := HLE.out 0 (by rw [HR.out.1]; exact e)
      rw [(HR.out.2 0 e).1] at this; exact this
  have FC := Lib.hid (fun w' (a b : Option Addr) (c d : Nat) (h : RdR w' a rows) (h2 : Rd w' b cs) => Fold_c p rows cs a b c d w' h h2 (by omega) (by omega))
  have RFC := Lib.hid (fun w' (a b : Option Addr) (c d : Nat) (h : RdR w' a rows) (h2 : Rd w' b cs) => RFold_c p rows cs a b c d w' h h2 (by omega) (by omega))
  have hcf := cFold_le (p := p) (rows := rows) (cs := cs)
  obtain ⟨CF, hCF⟩ : ∃ CF, CF = cFold p rows cs := ⟨_, rfl⟩
  rw [← hCF] at FC RFC hcf
  have hcf2 : CF.length ≤ 300 := by omega
  have RVC := fun w' => RCValid_c p n k w' hn hn2
  clear hs1 hs2 OC hCF hcf
  have HRVC := Lib.hid RVC
  clear RVC
  go_enter Try.func9, Try.ntmps9
  go_wp2_with fail
  refine (awake6_c _).mono ?_; rintro e w1 ⟨rfl, x0⟩
  replace h0 := x0.cell h0
  replace h1 := x0.cell h1
  replace h2 := x0.cell h2
  replace h3 := x0.cell h3
  replace h4 := x0.cell h4
  replace h5 := x0.cell h5
  have X := x0.box
  clear x0
  go_wp2_with fail
  refine (SC.out _ (HV.out.ext X)).mono ?_; rintro e w2 ⟨rfl, x⟩
  replace h0 := x.cell h0
  replace h1 := x.cell h1
  replace h2 := x.cell h2
  replace h3 := x.cell h3
  replace h4 := x.cell h4
  replace h5 := x.cell h5
  replace X := X.trans x
  clear x
  go_wp2_with fail
  refine (SC2.out _ _ (by simp) (by simp)).mono ?_; rintro e w3 ⟨rfl, x⟩
  replace h0 := x.box.cell h0
  replace h1 := x.box.cell h1
  replace h2 := x.box.cell h2
  replace h3 := x.box.cell h3
  replace h4 := x.box.cell h4
  replace h5 := x.box.cell h5
  replace X := X.trans x.box
  clear x
  go_wp2_with fail
  go_loopw [7, 44] (MiRel rows w3) (fun _ i _ => rows.length - (intOf i).toNat)
  case atStart => exact ⟨0, [], rfl, Nat.zero_le _, OwnV.nil _ _, by simpa using Rows2.nil _, fun i hi => absurd hi (by simp), Ext.refl _⟩
  case round =>
    obtain ⟨j, L', rfl, hj, ho, hr2, hoff, hext⟩ := hrel
    replace h0 := hext.cell h0
    replace h1 := hext.cell h1
    replace h2 := hext.cell h2
    replace h3 := hext.cell h3
    replace h4 := hext.cell h4
    replace h5 := hext.cell h5
    replace X := X.trans hext
    have HO := Lib.hid ho
    have HR2 := Lib.hid hr2
    have HOFF := Lib.hid hoff
    have HXX := Lib.hid hext
    clear hext ho hr2 hoff
    by_cases hlt : j < rows.length
    · obtain ⟨g, off, hra, hcell⟩ := HV.out.at (by rw [HR.out.1]; omega)
      subst hra
      have cx := X.cell (hcell j (by rw [HR.out.1]; exact hlt))
      have hrow := HR.out.2 j hlt
      have hle := HLE.out j (by rw [HR.out.1]; exact hlt)
      obtain ⟨⟨a1, m1, c1⟩, hm⟩ : ∃ y, y = L.getD j (none, 0, 0) := ⟨_, rfl⟩
      rw [← hm] at cx hrow hle
      simp only at cx hrow hle
      obtain ⟨hr1, hr2⟩ := hrow
      have E1 : Hid (rows.take (j + 1) = rows.take j ++ [rows.getD j []]) := Lib.hid (by rw [List.take_add_one, List.getElem?_eq_getElem hlt]; simp [List.getD, List.getElem?_eq_getElem hlt])
      obtain ⟨row, hrow⟩ : ∃ r, r = rows.getD j [] := ⟨_, rfl⟩
      rw [← hrow] at hr1 hr2 E1
      have CAL := Lib.hid (fun w' (h : Ext w w') => HOC.out row (by omega) w' a1 c1 (hr2.ext h))
      rw [← hr1] at CAL
      clear hcell hm hr2 hr1 hrow
      go_wp2_with fail
      refine (CAL.out _ X).mono ?_; rintro e w5 ⟨v5, rfl, o5, x5⟩
      obtain ⟨a5, c5, rfl, _, _, r5⟩ := o5.form
      have HO5 := Lib.hid (fun o => HO.out.grow (x5.trans ((Ext.refl _).alloc o)))
      have O5 := Lib.hid o5
      have R5 := Lib.hid r5
      have X5 := Lib.hid x5
      have HS5 : Hid (w3.heap.size ≤ w5.heap.size) := Lib.hid (by have := HXX.out.size; have := x5.size; omega)
      have HL' : Hid (L'.length ≤ 12) := Lib.hid (by rw [HR2.out.1]; simp; omega)
      clear o5 r5 x5 cx
      go_wp2_with (at_builtin; refine wpList_appV1 rfl (.tmp 48) (.tmp 51) rfl w3.heap.size _ _ rfl (HO5.out _) w5.heap.size a5 row.length c5 1 rfl (by simp) (by have := HL'.out; omega) (by have := HS5.out; simp; omega) ?_; intro v6 w6 o6 x6 k6 s6 b6)
      have X6 := Lib.hid (x6 _ ((HXX.out.trans X5.out).trans ((Ext.refl _).alloc _)) (Nat.le_refl _))
      have ST := Rows2.step (c5 := c5) HR2.out HOFF.out (X5.out.trans ((Ext.refl _).alloc _)) (R5.out.ext ((Ext.refl _).alloc _)) (fun q hq => by
        have := O5.out.place q hq
        refine ⟨by simp; omega, fun h => ?_⟩
        have := (World.ownsRow.lt HO.out q.block h).2
        omega) k6 s6 b6
      have ST := Lib.hid ST
      have O6 := Lib.hid o6
      clear x6 k6 s6 b6 o6
      go_roundw
      case rel => exact ⟨j + 1, _, by go_num, by omega, O6.out, by rw [E1.out]; exact ST.out.1, ST.out.2, X6.out⟩
      case measure => simp [intOf]; omega
    · have ej : rows.take j = rows := List.take_of_length_le (by omega)
      rw [ej] at HR2
      obtain ⟨a7, c7, hv7, _, r7⟩ := HO.out.form
      rw [HR2.out.1] at hv7
      subst hv7
      have RM := Lib.hid (HR2.out.rdR r7)
      have RW := Lib.hid (HR.out.rdR HV.out)
      clear ej r7 HO HOFF HR2
      go_wp2_with fail
      refine region_facts [[], [(0, 54)], [(1, 55)], [], [], [(4, 58)], [(2, 56), (3, 57), (5, 59)], [], [(7, 61)], [(8, 62)], [], [], [(9, 63), (10, 64), (11, 65)], [(6, 60), (12, 66)], [(13, 67)]] [some 54, some 55, some 56, some 57, some 58, some 59, some 60, some 61, some 62, some 63, some 64, some 65, some 66, some 67, some 68] (by kernel_rfl) (by kernel_rfl) ?_
      with_reducible apply From.eq
      · intro w' hx; have h0x := hx.cell h0; (try dsimp only [List.nil_append, List.cons_append]); dsimp only [DepsV, fat, eqF]; go_wp2; exact OpPost.some _ rfl rfl (Ext.refl _) rfl
      with_reducible apply From.eq
      · intro w' hx; have h0x := hx.cell h0; (try dsimp only [List.nil_append, List.cons_append]); dsimp only [DepsV, fat, eqF]; rintro _ rfl; go_wp2; exact OpPost.some _ rfl rfl (Ext.refl _) rfl
      with_reducible apply From.eq
      · intro w' hx; have h0x := hx.cell h0; (try dsimp only [List.nil_append, List.cons_append]); dsimp only [DepsV, fat, eqF]; rintro _ rfl; go_wp2; exact OpPost.some _ rfl rfl (Ext.refl _) rfl
      with_reducible apply From.eq
      · intro w' hx; have h0x := hx.cell h0; (try dsimp only [List.nil_append, List.cons_append]); dsimp only [DepsV, fat, eqF]; go_wp2; exact OpPost.some _ rfl rfl (Ext.refl _) rfl
      with_reducible apply From.eq
      · intro w' hx; have h0x := hx.cell h0; (try dsimp only [List.nil_append, List.cons_append]); dsimp only [DepsV, fat, eqF]; go_wp2; exact OpPost.some _ rfl rfl (Ext.refl _) rfl
      refine From.step (OwnF w.heap.size cs) (OwnF.mono) ?_ ?_
      · intro w' hx; have h0x := hx.cell h0; (try dsimp only [List.nil_append, List.cons_append]); dsimp only [DepsV, fat, eqF]; rintro _ rfl; skip;
        go_wp2_with (go_at_call 16; refine (OCC.out _ _ _ (HCS.out.ext (X.trans hx))).mono ?_; rintro e w2 ⟨v, rfl, ho, hn'⟩); exact OpPost.some _ rfl rfl hn' (ho.base (X.trans hx).size)
      refine From.step (OwnF w.heap.size CF) (OwnF.mono) ?_ ?_
      · intro w' hx; have h0x := hx.cell h0; (try dsimp only [List.nil_append, List.cons_append]); dsimp only [DepsV, fat, eqF]; rintro _ rfl; rintro _ rfl; rintro v5 k5; obtain ⟨a5, c5, rfl, _, _, r5⟩ := Own.form k5;
        go_wp2_with (go_at_call 32; refine (FC.out _ _ _ _ _ (RM.out.ext hx) r5).mono ?_; rintro e w2 ⟨v, rfl, ho, hn'⟩); exact OpPost.some _ rfl rfl hn' (ho.base (X.trans hx).size)
      with_reducible apply From.eq
      · intro w' hx; have h0x := hx.cell h0; (try dsimp only [List.nil_append, List.cons_append]); dsimp only [DepsV, fat, eqF]; go_wp2; exact OpPost.some _ rfl rfl (Ext.refl _) rfl
      with_reducible apply From.eq
      · intro w' hx; have h0x := hx.cell h0; (try dsimp only [List.nil_append, List.cons_append]); dsimp only [DepsV, fat, eqF]; rintro _ rfl; go_wp2; exact OpPost.some _ rfl rfl (Ext.refl _) rfl
      with_reducible apply From.eq
      · intro w' hx; have h0x := hx.cell h0; (try dsimp only [List.nil_append, List.cons_append]); dsimp only [DepsV, fat, eqF]; rintro _ rfl; go_wp2; exact OpPost.some _ rfl rfl (Ext.refl _) rfl
      with_reducible apply From.eq
      · intro w' hx; have h0x := hx.cell h0; (try dsimp only [List.nil_append, List.cons_append]); dsimp only [DepsV, fat, eqF]; go_wp2; exact OpPost.some _ rfl rfl (Ext.refl _) rfl
      with_reducible apply From.eq
      · intro w' hx; have h0x := hx.cell h0; (try dsimp only [List.nil_append, List.cons_append]); dsimp only [DepsV, fat, eqF]; go_wp2; exact OpPost.some _ rfl rfl (Ext.refl _) rfl
      refine From.step (OwnF w.heap.size CF) (OwnF.mono) ?_ ?_
      · intro w' hx; have h0x := hx.cell h0; (try dsimp only [List.nil_append, List.cons_append]); dsimp only [DepsV, fat, eqF]; rintro _ rfl _ rfl _ rfl; skip;
        go_wp2_with (go_at_call 33; refine (RFC.out _ _ _ _ _ (RW.out.ext (X.trans hx)) (HCS.out.ext (X.trans hx))).mono ?_; rintro e w2 ⟨v, rfl, ho, hn'⟩); exact OpPost.some _ rfl rfl hn' (ho.base (X.trans hx).size)
      -- 13: t67
      with_reducible apply From.eq
      · intro w' hx; have h0x := hx.cell h0; (try dsimp only [List.nil_append, List.cons_append]); dsimp only [DepsV, fat, eqF]; rintro v6 k6; rintro v12 k12; obtain ⟨a6, c6, rfl, _, _, r6⟩ := Own.form k6; obtain ⟨a12, c12, rfl, _, _, r12⟩ := Own.form k12; go_wp2_with (go_at_call 19; refine (same6 CF _ _ _ _ _ _ rfl r6 r12 (by omega)).mono ?_; rintro e w2 ⟨rfl, hb2⟩); exact OpPost.some _ rfl rfl hb2 rfl
      with_reducible apply From.eq
      · intro w' hx; have h0x := hx.cell h0; (try dsimp only [List.nil_append, List.cons_append]); dsimp only [DepsV, fat, eqF]; rintro _ rfl; go_wp2; exact OpPost.some _ rfl rfl (Ext.refl _) rfl
      with_reducible refine From.fin ?_
      intro w' hx
      (try dsimp only [List.nil_append, List.cons_append]); dsimp only [EndV, eqF]; rintro _ rfl _ rfl _ rfl _ rfl _ rfl v5 k5 v6 k6 _ rfl _ rfl _ rfl _ rfl _ rfl v12 k12 _ rfl _ rfl; simp only [Act.put, List.setIfInBounds_toArray, List.set_cons_zero, List.set_cons_succ]
      replace h0 := hx.cell h0
      replace h1 := hx.cell h1
      replace h2 := hx.cell h2
      replace h3 := hx.cell h3
      replace h4 := hx.cell h4
      replace h5 := hx.cell h5
      replace X := X.trans hx
      clear hx k5 k6 k12 RM RW
      go_wp2_with fail
      refine (HRVC.out _).mono ?_; rintro e w6 ⟨rfl, x⟩
      replace h0 := x.cell h0
      replace h1 := x.cell h1
      replace h2 := x.cell h2
      replace h3 := x.cell h3
      replace h4 := x.cell h4
      replace h5 := x.cell h5
      replace X := X.trans x
      clear x
      cases hc : cval p n k
      case false =>
        go_wp2_with fail
        go_ret
        exact ⟨rfl, X⟩
      by_cases hkA : (l.length : Int) ≤ k
      case neg =>
        go_wp2_with fail
        go_ret
        exact ⟨rfl, X⟩
      by_cases hkB : (m.length : Int) ≤ k
      case neg =>
        go_wp2_with fail
        go_ret
        exact ⟨rfl, X⟩
      by_cases h2c : 2 ≤ cs.length
      case neg =>
        go_wp2_with fail
        go_ret
        exact ⟨rfl, X⟩
      have EA := fun w' (a : Option Addr) (c : Nat) (h : Rd w' a l) => Encode_c p n k l a c w' h (by omega) hn hn2
      have EB := fun w' (a : Option Addr) (c : Nat) (h : Rd w' a m) => Encode_c p n k m a c w' h (by omega) hn hn2
      have e1 : cEnc p n k l = (cword p n.toNat l, 0) := by
        have hv : vld p = true := ((cval_iff p n k).1 hc).1
        unfold cEnc; rw [if_neg (by rw [hv]; simp), if_pos ⟨hc, hkA⟩]
      have e2 : cEnc p n k m = (cword p n.toNat m, 0) := by
        have hv : vld p = true := ((cval_iff p n k).1 hc).1
        unfold cEnc; rw [if_neg (by rw [hv]; simp), if_pos ⟨hc, hkB⟩]
      rw [e1] at EA
      rw [e2] at EB
      have hcon := fold_con hc l m hkA hkB (cs.getD 0 0) (cs.getD 1 0)
      have w1l : (cword p n.toNat l).length = n.toNat := cword_len _ _ _
      have w2l : (cword p n.toNat m).length = n.toNat := cword_len _ _ _
      have hn3 := ((cval_iff p n k).1 hc).2.2.1
      obtain ⟨W1, hW1⟩ : ∃ x, x = cword p n.toNat l := ⟨_, rfl⟩
      obtain ⟨W2, hW2⟩ : ∃ x, x = cword p n.toNat m := ⟨_, rfl⟩
      rw [← hW1] at EA hcon w1l
      rw [← hW2] at EB hcon w2l
      have F2 := Lib.hid (fun (g : Nat) (A B C : Option Addr) (ca cb cc : Nat) (w : World) (h0 : w.cell? ⟨g, 0, none⟩ = some (celV (A, W1.length, ca))) (h1 : w.cell? ⟨g, 1, none⟩ = some (celV (B, W2.length, cb))) (hA : Rd w A W1) (hB : Rd w B W2) (hC : Rd w C cs) => foldTwo_c p W1 W2 cs n.toNat w1l (by omega) h2c g A B C ca cb cc w h0 h1 hA hB hC)
      have HEA := Lib.hid EA
      have HEB := Lib.hid EB
      have CC := fun w' (a : Option Addr) (c : Nat) (h : Rd w' a (cFold p [W1, W2] [cs.getD 0 0, cs.getD 1 0])) => Contains_c p n k _ a c w' h hn hn2
      rw [hcon] at CC
      obtain ⟨G, hG⟩ : ∃ G, G = cFold p [W1, W2] [cs.getD 0 0, cs.getD 1 0] := ⟨_, rfl⟩
      rw [← hG] at F2 CC
      have HCC := Lib.hid CC
      have h2cc : 2 ≤ cc := by omega
      clear EA EB e1 e2 hcon hn3 w1l w2l hW1 hW2 hG CC hc
      go_wp2_with fail
      refine region_facts [[], [(0, 97)], [(1, 98)], [], [(3, 100)], [(4, 101)], [(2, 99), (5, 102)], [(6, 103)], [(7, 96)], [(7, 96)], [(8, 104)], [(9, 105)]] [some 97, some 98, some 99, some 100, some 101, some 102, some 103, some 96, some 104, some 105, some 10, some 11] (by kernel_rfl) (by kernel_rfl) ?_
      with_reducible apply From.eq
      · intro w' hx; have h0x := hx.cell h0; have h1x := hx.cell h1; have h2x := hx.cell h2; have h3x := hx.cell h3; (try dsimp only [List.nil_append, List.cons_append]); dsimp only [DepsV, fat, eqF]; go_wp2; exact OpPost.some _ rfl rfl (Ext.refl _) rfl
      with_reducible apply From.eq
      · intro w' hx; have h0x := hx.cell h0; have h1x := hx.cell h1; have h2x := hx.cell h2; have h3x := hx.cell h3; (try dsimp only [List.nil_append, List.cons_append]); dsimp only [DepsV, fat, eqF]; rintro _ rfl; go_wp2; exact OpPost.some _ rfl rfl (Ext.refl _) rfl
      with_reducible apply From.eq
      · intro w' hx; have h0x := hx.cell h0; have h1x := hx.cell h1; have h2x := hx.cell h2; have h3x := hx.cell h3; (try dsimp only [List.nil_append, List.cons_append]); dsimp only [DepsV, fat, eqF]; rintro _ rfl; go_wp2_with (go_at_call 15; refine (of_c p n k _).mono ?_; rintro e w2 ⟨rfl, hb2⟩); exact OpPost.some _ rfl rfl hb2 rfl
      with_reducible apply From.eq
      · intro w' hx; have h0x := hx.cell h0; have h1x := hx.cell h1; have h2x := hx.cell h2; have h3x := hx.cell h3; (try dsimp only [List.nil_append, List.cons_append]); dsimp only [DepsV, fat, eqF]; go_wp2; exact OpPost.some _ rfl rfl (Ext.refl _) rfl
      with_reducible apply From.eq
      · intro w' hx; have h0x := hx.cell h0; have h1x := hx.cell h1; have h2x := hx.cell h2; have h3x := hx.cell h3; (try dsimp only [List.nil_append, List.cons_append]); dsimp only [DepsV, fat, eqF]; rintro _ rfl; go_wp2; exact OpPost.some _ rfl rfl (Ext.refl _) rfl
      refine From.step (OwnF w.heap.size l) (OwnF.mono) ?_ ?_
      · intro w' hx; have h0x := hx.cell h0; have h1x := hx.cell h1; have h2x := hx.cell h2; have h3x := hx.cell h3; (try dsimp only [List.nil_append, List.cons_append]); dsimp only [DepsV, fat, eqF]; rintro _ rfl; skip;
        go_wp2_with (go_at_call 16; refine (OCA.out _ _ _ (HA.out.ext (X.trans hx))).mono ?_; rintro e w2 ⟨v, rfl, ho, hn'⟩); exact OpPost.some _ rfl rfl hn' (ho.base (X.trans hx).size)
      refine From.step (IPF w.heap.size W1 0) (IPF.mono) ?_ ?_
      · intro w' hx; have h0x := hx.cell h0; have h1x := hx.cell h1; have h2x := hx.cell h2; have h3x := hx.cell h3; (try dsimp only [List.nil_append, List.cons_append]); dsimp only [DepsV, fat, eqF]; rintro _ rfl; rintro v5 k5; obtain ⟨a5, c5, rfl, _, _, r5⟩ := Own.form k5;
        go_wp2_with (go_at_call 14; refine (HEA.out _ _ _ r5).mono ?_; rintro e w2 ⟨v, rfl, ho, hn'⟩); exact OpPost.some _ rfl rfl hn' ⟨v, rfl, ho.base (X.trans hx).size⟩
      refine From.step (IPF w.heap.size W1 0) (IPF.mono) ?_ ?_
      · intro w' hx; have h0x := hx.cell h0; have h1x := hx.cell h1; have h2x := hx.cell h2; have h3x := hx.cell h3; (try dsimp only [List.nil_append, List.cons_append]); dsimp only [DepsV, fat, eqF]; rintro v6 k6; go_wp2; exact OpPost.some _ rfl rfl (Ext.refl _) k6
      -- 8: t104
      refine From.step (OwnF w.heap.size W1) OwnF.mono ?_ ?_
      · intro w' hx; have h0x := hx.cell h0; have h1x := hx.cell h1; have h2x := hx.cell h2; have h3x := hx.cell h3; (try dsimp only [List.nil_append, List.cons_append]); dsimp only [DepsV, fat, eqF]; rintro v7_ h7_; obtain ⟨u, rfl, hu⟩ := h7_; go_wp2; exact OpPost.some _ rfl rfl (Ext.refl _) hu
      -- 9: t105
      with_reducible apply From.eq
      · intro w' hx; have h0x := hx.cell h0; have h1x := hx.cell h1; have h2x := hx.cell h2; have h3x := hx.cell h3; (try dsimp only [List.nil_append, List.cons_append]); dsimp only [DepsV, fat, eqF]; rintro v7_ h7_; obtain ⟨u, rfl, hu⟩ := h7_; go_wp2; exact OpPost.some _ rfl rfl (Ext.refl _) rfl
      -- 10: t10
      refine From.step (OwnF w.heap.size W1) OwnF.mono ?_ ?_
      · intro w' hx; have h0x := hx.cell h0; have h1x := hx.cell h1; have h2x := hx.cell h2; have h3x := hx.cell h3; (try dsimp only [List.nil_append, List.cons_append]); dsimp only [DepsV, fat, eqF]; rintro v8 k8; go_wp2; exact OpPost.some _ rfl rfl (Ext.refl _) k8
      with_reducible apply From.eq
      · intro w' hx; have h0x := hx.cell h0; have h1x := hx.cell h1; have h2x := hx.cell h2; have h3x := hx.cell h3; (try dsimp only [List.nil_append, List.cons_append]); dsimp only [DepsV, fat, eqF]; rintro _ rfl; go_wp2; exact OpPost.some _ rfl rfl (Ext.refl _) rfl
      with_reducible refine From.fin ?_
      intro w' hx
      (try dsimp only [List.nil_append, List.cons_append]); dsimp only [EndV, eqF]; rintro _ rfl _ rfl _ rfl _ rfl _ rfl v5 k5 v6 k6 v7_ h7_ v8 k8 _ rfl v10 k10 _ rfl; simp only [Act.put, List.setIfInBounds_toArray, List.set_cons_zero, List.set_cons_succ]
      obtain ⟨pa, pc, hvv, _, _, pr⟩ := Own.form k10
      obtain ⟨u5, rfl, _⟩ := k6
      obtain ⟨u6, rfl, _⟩ := h7_
      subst hvv
      have pR := Lib.hid pr
      clear k5 k8 k10 pr
      replace h0 := hx.cell h0
      replace h1 := hx.cell h1
      replace h2 := hx.cell h2
      replace h3 := hx.cell h3
      replace h4 := hx.cell h4
      replace h5 := hx.cell h5
      replace X := X.trans hx
      clear hx
      obtain ⟨w_p, rfl⟩ : ∃ q : World, q = w' := ⟨_, rfl⟩
      go_wp2_with fail
      refine region_facts [[], [(0, 107)], [(1, 108)], [], [(3, 110)], [(4, 111)], [(2, 109), (5, 112)], [(6, 113)], [(7, 106)], [(7, 106)], [(8, 114)], [(9, 115)]] [some 107, some 108, some 109, some 110, some 111, some 112, some 113, some 106, some 114, some 115, some 12, some 13] (by kernel_rfl) (by kernel_rfl) ?_
      with_reducible apply From.eq
      · intro w' hx; have h0x := hx.cell h0; have h1x := hx.cell h1; have h2x := hx.cell h2; have h4x := hx.cell h4; (try dsimp only [List.nil_append, List.cons_append]); dsimp only [DepsV, fat, eqF]; go_wp2; exact OpPost.some _ rfl rfl (Ext.refl _) rfl
      with_reducible apply From.eq
      · intro w' hx; have h0x := hx.cell h0; have h1x := hx.cell h1; have h2x := hx.cell h2; have h4x := hx.cell h4; (try dsimp only [List.nil_append, List.cons_append]); dsimp only [DepsV, fat, eqF]; rintro _ rfl; go_wp2; exact OpPost.some _ rfl rfl (Ext.refl _) rfl
      with_reducible apply From.eq
      · intro w' hx; have h0x := hx.cell h0; have h1x := hx.cell h1; have h2x := hx.cell h2; have h4x := hx.cell h4; (try dsimp only [List.nil_append, List.cons_append]); dsimp only [DepsV, fat, eqF]; rintro _ rfl; go_wp2_with (go_at_call 15; refine (of_c p n k _).mono ?_; rintro e w2 ⟨rfl, hb2⟩); exact OpPost.some _ rfl rfl hb2 rfl
      with_reducible apply From.eq
      · intro w' hx; have h0x := hx.cell h0; have h1x := hx.cell h1; have h2x := hx.cell h2; have h4x := hx.cell h4; (try dsimp only [List.nil_append, List.cons_append]); dsimp only [DepsV, fat, eqF]; go_wp2; exact OpPost.some _ rfl rfl (Ext.refl _) rfl
      with_reducible apply From.eq
      · intro w' hx; have h0x := hx.cell h0; have h1x := hx.cell h1; have h2x := hx.cell h2; have h4x := hx.cell h4; (try dsimp only [List.nil_append, List.cons_append]); dsimp only [DepsV, fat, eqF]; rintro _ rfl; go_wp2; exact OpPost.some _ rfl rfl (Ext.refl _) rfl
      refine From.step (OwnF w.heap.size m) (OwnF.mono) ?_ ?_
      · intro w' hx; have h0x := hx.cell h0; have h1x := hx.cell h1; have h2x := hx.cell h2; have h4x := hx.cell h4; (try dsimp only [List.nil_append, List.cons_append]); dsimp only [DepsV, fat, eqF]; rintro _ rfl; skip;
        go_wp2_with (go_at_call 16; refine (OCB.out _ _ _ (HB.out.ext (X.trans hx))).mono ?_; rintro e w2 ⟨v, rfl, ho, hn'⟩); exact OpPost.some _ rfl rfl hn' (ho.base (X.trans hx).size)
      refine From.step (IPF w.heap.size W2 0) (IPF.mono) ?_ ?_
      · intro w' hx; have h0x := hx.cell h0; have h1x := hx.cell h1; have h2x := hx.cell h2; have h4x := hx.cell h4; (try dsimp only [List.nil_append, List.cons_append]); dsimp only [DepsV, fat, eqF]; rintro _ rfl; rintro v5 k5; obtain ⟨a5, c5, rfl, _, _, r5⟩ := Own.form k5;
        go_wp2_with (go_at_call 14; refine (HEB.out _ _ _ r5).mono ?_; rintro e w2 ⟨v, rfl, ho, hn'⟩); exact OpPost.some _ rfl rfl hn' ⟨v, rfl, ho.base (X.trans hx).size⟩
      refine From.step (IPF w.heap.size W2 0) (IPF.mono) ?_ ?_
      · intro w' hx; have h0x := hx.cell h0; have h1x := hx.cell h1; have h2x := hx.cell h2; have h4x := hx.cell h4; (try dsimp only [List.nil_append, List.cons_append]); dsimp only [DepsV, fat, eqF]; rintro v6 k6; go_wp2; exact OpPost.some _ rfl rfl (Ext.refl _) k6
      -- 8: t114
      refine From.step (OwnF w.heap.size W2) OwnF.mono ?_ ?_
      · intro w' hx; have h0x := hx.cell h0; have h1x := hx.cell h1; have h2x := hx.cell h2; have h4x := hx.cell h4; (try dsimp only [List.nil_append, List.cons_append]); dsimp only [DepsV, fat, eqF]; rintro v7_ h7_; obtain ⟨u, rfl, hu⟩ := h7_; go_wp2; exact OpPost.some _ rfl rfl (Ext.refl _) hu
      -- 9: t115
      with_reducible apply From.eq
      · intro w' hx; have h0x := hx.cell h0; have h1x := hx.cell h1; have h2x := hx.cell h2; have h4x := hx.cell h4; (try dsimp only [List.nil_append, List.cons_append]); dsimp only [DepsV, fat, eqF]; rintro v7_ h7_; obtain ⟨u, rfl, hu⟩ := h7_; go_wp2; exact OpPost.some _ rfl rfl (Ext.refl _) rfl
      -- 10: t12
      refine From.step (OwnF w.heap.size W2) OwnF.mono ?_ ?_
      · intro w' hx; have h0x := hx.cell h0; have h1x := hx.cell h1; have h2x := hx.cell h2; have h4x := hx.cell h4; (try dsimp only [List.nil_append, List.cons_append]); dsimp only [DepsV, fat, eqF]; rintro v8 k8; go_wp2; exact OpPost.some _ rfl rfl (Ext.refl _) k8
      with_reducible apply From.eq
      · intro w' hx; have h0x := hx.cell h0; have h1x := hx.cell h1; have h2x := hx.cell h2; have h4x := hx.cell h4; (try dsimp only [List.nil_append, List.cons_append]); dsimp only [DepsV, fat, eqF]; rintro _ rfl; go_wp2; exact OpPost.some _ rfl rfl (Ext.refl _) rfl
      with_reducible refine From.fin ?_
      intro w' hx
      (try dsimp only [List.nil_append, List.cons_append]); dsimp only [EndV, eqF]; rintro _ rfl _ rfl _ rfl _ rfl _ rfl v5 k5 v6 k6 v7_ h7_ v8 k8 _ rfl v10 k10 _ rfl; simp only [Act.put, List.setIfInBounds_toArray, List.set_cons_zero, List.set_cons_succ]
      obtain ⟨qa, qc, hvv, _, _, qr⟩ := Own.form k10
      obtain ⟨u5, rfl, _⟩ := k6
      obtain ⟨u6, rfl, _⟩ := h7_
      subst hvv
      have qR := Lib.hid qr
      have pX := Lib.hid hx
      clear k5 k8 k10 qr
      replace h0 := hx.cell h0
      replace h1 := hx.cell h1
      replace h2 := hx.cell h2
      replace h3 := hx.cell h3
      replace h4 := hx.cell h4
      replace h5 := hx.cell h5
      replace X := X.trans hx
      clear hx
      obtain ⟨w_q, rfl⟩ : ∃ q : World, q = w' := ⟨_, rfl⟩
      go_wp2_with fail
      refine region_facts [[], [(0, 116)], [(1, 117)], [], [(3, 119)], [(4, 120)], [], [], [(6, 122), (7, 123)], [], [(9, 125)], [(5, 121), (8, 124), (10, 126)], [(2, 118), (11, 127)], [(12, 128)]] [some 116, some 117, some 118, some 119, some 120, some 121, some 122, some 123, some 124, some 125, some 126, some 127, some 128, some 6] (by kernel_rfl) (by kernel_rfl) ?_
      with_reducible apply From.eq
      · intro w' hx; have h0x := hx.cell h0; have h1x := hx.cell h1; have h2x := hx.cell h2; (try dsimp only [List.nil_append, List.cons_append]); dsimp only [DepsV, fat, eqF]; go_wp2; exact OpPost.some _ rfl rfl (Ext.refl _) rfl
      with_reducible apply From.eq
      · intro w' hx; have h0x := hx.cell h0; have h1x := hx.cell h1; have h2x := hx.cell h2; (try dsimp only [List.nil_append, List.cons_append]); dsimp only [DepsV, fat, eqF]; rintro _ rfl; go_wp2; exact OpPost.some _ rfl rfl (Ext.refl _) rfl
      with_reducible apply From.eq
      · intro w' hx; have h0x := hx.cell h0; have h1x := hx.cell h1; have h2x := hx.cell h2; (try dsimp only [List.nil_append, List.cons_append]); dsimp only [DepsV, fat, eqF]; rintro _ rfl; go_wp2_with (go_at_call 15; refine (of_c p n k _).mono ?_; rintro e w2 ⟨rfl, hb2⟩); exact OpPost.some _ rfl rfl hb2 rfl
      with_reducible apply From.eq
      · intro w' hx; have h0x := hx.cell h0; have h1x := hx.cell h1; have h2x := hx.cell h2; (try dsimp only [List.nil_append, List.cons_append]); dsimp only [DepsV, fat, eqF]; go_wp2; exact OpPost.some _ rfl rfl (Ext.refl _) rfl
      with_reducible apply From.eq
      · intro w' hx; have h0x := hx.cell h0; have h1x := hx.cell h1; have h2x := hx.cell h2; (try dsimp only [List.nil_append, List.cons_append]); dsimp only [DepsV, fat, eqF]; rintro _ rfl; go_wp2; exact OpPost.some _ rfl rfl (Ext.refl _) rfl
      with_reducible apply From.eq
      · intro w' hx; have h0x := hx.cell h0; have h1x := hx.cell h1; have h2x := hx.cell h2; (try dsimp only [List.nil_append, List.cons_append]); dsimp only [DepsV, fat, eqF]; rintro _ rfl; go_wp2; exact OpPost.some _ rfl rfl (Ext.refl _) rfl
      with_reducible apply From.eq
      · intro w' hx; have h0x := hx.cell h0; have h1x := hx.cell h1; have h2x := hx.cell h2; (try dsimp only [List.nil_append, List.cons_append]); dsimp only [DepsV, fat, eqF]; go_wp2; exact OpPost.some _ rfl rfl (Ext.refl _) rfl
      with_reducible apply From.eq
      · intro w' hx; have h0x := hx.cell h0; have h1x := hx.cell h1; have h2x := hx.cell h2; (try dsimp only [List.nil_append, List.cons_append]); dsimp only [DepsV, fat, eqF]; go_wp2; exact OpPost.some _ rfl rfl (Ext.refl _) rfl
      -- 8: t124
      refine From.step (TwoF (pa, W1.length, pc) (qa, W2.length, qc)) TwoF.mono ?_ ?_
      · intro w' hx; have h0x := hx.cell h0; have h1x := hx.cell h1; have h2x := hx.cell h2; (try dsimp only [List.nil_append, List.cons_append]); dsimp only [DepsV, fat, eqF]; rintro _ rfl _ rfl; go_wp2; exact OpPost.some _ rfl rfl ((Ext.refl _).alloc _) ⟨_, rfl, by simp [celV], by simp [celV]⟩
      with_reducible apply From.eq
      · intro w' hx; have h0x := hx.cell h0; have h1x := hx.cell h1; have h2x := hx.cell h2; (try dsimp only [List.nil_append, List.cons_append]); dsimp only [DepsV, fat, eqF]; go_wp2; exact OpPost.some _ rfl rfl (Ext.refl _) rfl
      with_reducible apply From.eq
      · intro w' hx; have h0x := hx.cell h0; have h1x := hx.cell h1; have h2x := hx.cell h2; (try dsimp only [List.nil_append, List.cons_append]); dsimp only [DepsV, fat, eqF]; rintro _ rfl; go_wp2; exact OpPost.some _ rfl rfl (Ext.refl _) rfl
      refine From.step (OwnF w.heap.size G) (OwnF.mono) ?_ ?_
      · intro w' hx; have h0x := hx.cell h0; have h1x := hx.cell h1; have h2x := hx.cell h2; (try dsimp only [List.nil_append, List.cons_append]); dsimp only [DepsV, fat, eqF]; rintro _ rfl; rintro v8 k8; rintro _ rfl; obtain ⟨g8, rfl, q0, q1⟩ := k8;
        go_wp2_with (go_at_call 32; refine (F2.out _ _ _ _ _ _ _ _ q0 q1 (pR.out.ext (pX.out.trans hx)) (qR.out.ext hx) (HCS.out.ext (X.trans hx))).mono ?_; rintro e w2 ⟨v, rfl, ho, hn'⟩); exact OpPost.some _ rfl rfl hn' (ho.base (X.trans hx).size)
      -- 12: t128
      with_reducible apply From.eq
      · intro w' hx; have h0x := hx.cell h0; have h1x := hx.cell h1; have h2x := hx.cell h2; (try dsimp only [List.nil_append, List.cons_append]); dsimp only [DepsV, fat, eqF]; rintro _ rfl; rintro v11 k11; obtain ⟨a11, c11, rfl, _, _, r11⟩ := Own.form k11; go_wp2_with (go_at_call 31; refine (HCC.out _ _ _ r11).mono ?_; rintro e w2 ⟨rfl, hb2⟩); exact OpPost.some _ rfl rfl hb2 rfl
      with_reducible apply From.eq
      · intro w' hx; have h0x := hx.cell h0; have h1x := hx.cell h1; have h2x := hx.cell h2; (try dsimp only [List.nil_append, List.cons_append]); dsimp only [DepsV, fat, eqF]; rintro _ rfl; go_wp2; exact OpPost.some _ rfl rfl (Ext.refl _) rfl
      with_reducible refine From.fin ?_
      intro w' hx
      (try dsimp only [List.nil_append, List.cons_append]); dsimp only [EndV, eqF]; rintro _ rfl _ rfl _ rfl _ rfl _ rfl _ rfl _ rfl _ rfl v8 k8 _ rfl _ rfl v11 k11 _ rfl _ rfl; simp only [Act.put, List.setIfInBounds_toArray, List.set_cons_zero, List.set_cons_succ]
      replace X := X.trans hx
      clear hx k8 k11
      go_wp2_with fail
      go_ret
      exact ⟨rfl, X⟩
end Go.Proofs.Ytgnngifnoaagjaa
