/- AstValid: the walk. Printed by gen/val7.py. -/
import Derived.Test.YtcheigpejbmaoaaDoorVb6
import Derived.Test.YtcheigpejbmaoaaDoorAsB
namespace Go.Proofs.YtcheigpejbmaoaaDoor
open Go.RowKit
set_option maxRecDepth 100000 in
set_option maxHeartbeats 8000000 in
theorem AstValid_w (x : G) (w : World) (ht : Tab w) (hx : InG w x) : Calls Tryd.prog 4 #[x.v] w fun r w' => r = .returned (.bool true) ∧ Ext w w' := by
  have A1 := fun (h : wtG x ≤ 600) w' h' => Valid_c x (by omega) w' h'
  have A2 := fun (h : wtG x ≤ 600) w' h' => RValid_c x (by omega) w' h'
  have S1 := fun w' h => Small_c x w' h
  have AC := Lib.hid awake_c
  obtain ⟨V, hV⟩ : ∃ V, V = valG x := ⟨_, rfl⟩
  simp only [← hV] at A1 A2
  obtain ⟨T, hT⟩ : ∃ T, T = wtG x := ⟨_, rfl⟩
  simp only [← hT] at A1 A2 S1
  have HX := Lib.hid hx
  have HT := Lib.hid ht
  unfold G.v at *
  clear hV hT hx ht
  obtain ⟨xq0, hxq0⟩ : ∃ q, q = x.fa := ⟨_, rfl⟩
  obtain ⟨xq1, hxq1⟩ : ∃ q, q = x.funcs.length := ⟨_, rfl⟩
  obtain ⟨xq2, hxq2⟩ : ∃ q, q = x.fc := ⟨_, rfl⟩
  obtain ⟨xq3, hxq3⟩ : ∃ q, q = x.da := ⟨_, rfl⟩
  obtain ⟨xq4, hxq4⟩ : ∃ q, q = x.decls.length := ⟨_, rfl⟩
  obtain ⟨xq5, hxq5⟩ : ∃ q, q = x.dc := ⟨_, rfl⟩
  obtain ⟨xq6, hxq6⟩ : ∃ q, q = x.ba := ⟨_, rfl⟩
  obtain ⟨xq7, hxq7⟩ : ∃ q, q = x.body.length := ⟨_, rfl⟩
  obtain ⟨xq8, hxq8⟩ : ∃ q, q = x.bc := ⟨_, rfl⟩
  simp only [← hxq0, ← hxq1, ← hxq2, ← hxq3, ← hxq4, ← hxq5, ← hxq6, ← hxq7, ← hxq8] at A1 A2 S1 ⊢
  clear hxq0 hxq1 hxq2 hxq3 hxq4 hxq5 hxq6 hxq7 hxq8
  replace A1 := Lib.hid A1
  replace A2 := Lib.hid A2
  replace S1 := Lib.hid S1
  go_enter Tryd.func4, Tryd.ntmps4
  go_wp2_with fail
  refine (AC.out _ (HT.out.ext ((Ext.refl _).alloc _))).mono ?_; rintro e1 w1 ⟨rfl, x1⟩
  have c0 : w1.cell? ⟨w.heap.size, 0, none⟩ = some (.slice xq0 xq1 xq2) := x1.cell (by simp)
  have c1 : w1.cell? ⟨w.heap.size, 1, none⟩ = some (.slice xq3 xq4 xq5) := x1.cell (by simp)
  have c2 : w1.cell? ⟨w.heap.size, 2, none⟩ = some (.slice xq6 xq7 xq8) := x1.cell (by simp)
  have X := x1.box
  clear x1
  go_wp2_with fail
  refine (S1.out _ (HX.out.to X)).mono ?_; rintro e2 w2 ⟨b1, rfl, hs, x2⟩
  replace c0 := x2.cell c0; replace c1 := x2.cell c1; replace c2 := x2.cell c2; replace X := X.trans x2; clear x2
  cases b1
  · clear hs c0 c1 c2
    go_wp2_with fail
    refine (AC.out _ (HT.out.ext X)).mono ?_; rintro e3 w3 ⟨rfl, x3⟩
    replace X := X.trans x3; clear x3
    go_wp2_with fail
    go_ret
    exact ⟨rfl, X⟩
  · have HS := Lib.hid (hs rfl)
    clear hs
    go_wp2_with fail
    have TB : (V == V) = true := by simp
    refine region_factsL [[], [(0, 11)], [], [(2, 13)], [(1, 12), (3, 14)], [(4, 15)]] [some 11, some 12, some 13, some 14, some 15, some 2] [false, true, false, false, false, false, false, false, false, false, false, false, false, false, false, false] (by kernel_rfl) (by kernel_rfl) (by kernel_rfl) ?_
    dsimp only [maskL]
    with_reducible apply FromM.eq
    · intro w' hx; have c0x := hx.cell c0; have c1x := hx.cell c1; have c2x := hx.cell c2; (try dsimp only [List.nil_append, List.cons_append, DepsL, DepsL1, setO, setN, favs, opsOf]); go_wp2; exact OpPostE.some _ rfl rfl (Ext.refl _) rfl
    with_reducible apply FromM.eq
    · intro w' hx; (try dsimp only [List.nil_append, List.cons_append, DepsL, DepsL1, setO, setN, favs, opsOf]); refine op_call 12 [.tmp 11] _ _ _ rfl rfl rfl rfl rfl rfl (fun _ _ => Tryd.call12 _ _) (A1.out HS.out _ (HX.out.to (X.trans hx))) (fun e w2 h_ => ?_); obtain ⟨rfl, hb2⟩ := h_; exact ⟨_, rfl, hb2, rfl⟩
    with_reducible apply FromM.eq
    · intro w' hx; have c0x := hx.cell c0; have c1x := hx.cell c1; have c2x := hx.cell c2; (try dsimp only [List.nil_append, List.cons_append, DepsL, DepsL1, setO, setN, favs, opsOf]); go_wp2; exact OpPostE.some _ rfl rfl (Ext.refl _) rfl
    with_reducible apply FromM.eq
    · intro w' hx; (try dsimp only [List.nil_append, List.cons_append, DepsL, DepsL1, setO, setN, favs, opsOf]); refine op_call 13 [.tmp 13] _ _ _ rfl rfl rfl rfl rfl rfl (fun _ _ => Tryd.call13 _ _) (A2.out HS.out _ (HX.out.to (X.trans hx))) (fun e w2 h_ => ?_); obtain ⟨rfl, hb2⟩ := h_; exact ⟨_, rfl, hb2, rfl⟩
    with_reducible apply FromM.eq
    · intro w' hx; (try dsimp only [List.nil_append, List.cons_append, DepsL, DepsL1, setO, setN, favs, opsOf]); go_wp2; exact OpPostE.some _ rfl rfl (Ext.refl _) rfl
    with_reducible apply FromM.eq
    · intro w' hx; (try dsimp only [List.nil_append, List.cons_append, DepsL, DepsL1, setO, setN, favs, opsOf]); go_wp2; exact OpPostE.some _ rfl rfl (Ext.refl _) rfl
    with_reducible refine FromM.fin ?_
    intro w' hx
    (try dsimp only [List.nil_append, List.cons_append, EndL, DepsL1, setO, setN])
    replace X := X.trans hx
    clear hx c0 c1 c2
    go_wp2_with fail
    go_ret
    exact ⟨rfl, X⟩
end Go.Proofs.YtcheigpejbmaoaaDoor
