/- The document's Small: what it says of a program's size. Printed by gen/ast9.py. -/
import Derived.Test.YtcheigpejbmaoaaDoorAxA
namespace Go.Proofs.YtcheigpejbmaoaaDoor
open Go.RowKit
/-- A sum over a list. -/
def sumL {T : Type} (f : T → Nat) : List T → Nat
  | [] => 0
  | x :: l => f x + sumL f l
theorem sumL_snoc {T : Type} (f : T → Nat) : ∀ (l : List T) (x : T), sumL f (l ++ [x]) = sumL f l + f x
  | [], x => by show f x + 0 = 0 + f x; omega
  | y :: l, x => by show f y + sumL f (l ++ [x]) = f y + sumL f l + f x; rw [sumL_snoc f l x]; omega
theorem sumL_take {T : Type} (f : T → Nat) {l : List T} {j : Nat} {x : T} (h : l[j]? = some x) : sumL f (l.take (j + 1)) = sumL f (l.take j) + f x := by rw [take_snoc h, sumL_snoc]
def nmP (p : P) : Nat := p.name.size
def nmD (d : D) : Nat := d.name.size
def wtF (f : F) : Nat := f.name.size + f.params.length + wtSs f.body + wtE f.e + sumL nmP f.params
def wtG (g : G) : Nat := wtSs g.body + g.decls.length + g.funcs.length + sumL wtF g.funcs + sumL nmD g.decls
def WG (t d : Nat) : Fact := fun _ v => ∃ n : Nat, v = .int .i64 ((n : Int) + (t : Int)) ∧ (n : Int) ≤ 281474976711857 ∧ ((n : Int) ≤ 600 → d ≤ n)
theorem WG.mono {t d : Nat} : Mono (WG t d) := fun _ _ _ _ h => h
def WG2 (t u d : Nat) : Fact := fun _ v => ∃ n : Nat, v = .int .i64 ((n : Int) + (t : Int) + (u : Int)) ∧ (n : Int) ≤ 281474976711857 ∧ ((n : Int) ≤ 600 → d ≤ n)
theorem WG2.mono {t u d : Nat} : Mono (WG2 t u d) := fun _ _ _ _ h => h
def WG0 (d : Nat) : Fact := fun _ v => ∃ n : Nat, v = .int .i64 (n : Int) ∧ (n : Int) ≤ 281474976711857 ∧ ((n : Int) ≤ 600 → d ≤ n)
theorem WG0.mono {d : Nat} : Mono (WG0 d) := fun _ _ _ _ h => h
def WG3 (s t u d : Nat) : Fact := fun _ v => ∃ n : Nat, v = .int .i64 ((s : Int) + (t : Int) + (u : Int) + (n : Int)) ∧ (n : Int) ≤ 281474976711857 ∧ ((n : Int) ≤ 600 → d ≤ n)
theorem WG3.mono {s t u d : Nat} : Mono (WG3 s t u d) := fun _ _ _ _ h => h
def SmRel {T : Type} (f : T → Nat) (d : Nat) (l : List T) (w1 : World) (s5 s6 : Value) (wr : World) : Prop := ∃ j N : Nat, s6 = .int .i64 j ∧ s5 = .int .i64 N ∧ j ≤ l.length ∧ N ≤ 1125899906842624 ∧ (N ≤ 600 → d + sumL f (l.take j) ≤ N) ∧ Ext w1 wr
def SmP (T : Nat) (w : World) (r : Ending) (w' : World) : Prop := ∃ b : Bool, r = .returned (.bool b) ∧ (b = true → T ≤ 600) ∧ Ext w w'
theorem SmP.mk {T : Nat} {w : World} {r : Ending} {w' : World} (b : Bool) (h : r = .returned (.bool b)) (h2 : b = true → T ≤ 600) (h3 : Ext w w') : SmP T w r w' := ⟨b, h, h2, h3⟩
set_option maxRecDepth 100000 in
set_option maxHeartbeats 8000000 in
theorem Small_c (g : G) (w : World) (hg : InG w g) : Calls Tryd.prog 9 #[g.v] w (SmP (wtG g) w) := by
  have WC := Lib.hid (fun (e : E) (w' : World) h => Weight_c e 600 (by decide) (by decide) w' h)
  have SC := Lib.hid (fun (l : List S) (n : Nat) (hn : l.length = n) (a : Option Addr) (c : Nat) (w' : World) h => weights_c l n hn a c 600 (by decide) (by decide) w' h)
  have PS := SC.out g.body g.body.length rfl g.ba g.bc
  have HL := hg.body
  have HF := hg.fs
  have HD := hg.ds
  have hcap : g.funcs.length ≤ 140737488355328 := hg.fs.2
  have hcap2 : g.decls.length ≤ 140737488355328 := hg.ds.2
  have EQ : wtG g = wtSs g.body + g.decls.length + g.funcs.length + sumL wtF g.funcs + sumL nmD g.decls := rfl
  obtain ⟨T, hT⟩ : ∃ T, T = wtG g := ⟨_, rfl⟩
  obtain ⟨d0, hd0⟩ : ∃ q, q = wtSs g.body := ⟨_, rfl⟩
  rw [← hT, ← hd0] at EQ
  simp only [← hd0] at PS
  rw [← hT]
  unfold G.v
  clear hT hd0 hg
  obtain ⟨gq0, hgq0⟩ : ∃ q, q = g.fa := ⟨_, rfl⟩
  obtain ⟨gq1, hgq1⟩ : ∃ q, q = g.funcs.length := ⟨_, rfl⟩
  obtain ⟨gq2, hgq2⟩ : ∃ q, q = g.fc := ⟨_, rfl⟩
  obtain ⟨gq3, hgq3⟩ : ∃ q, q = g.da := ⟨_, rfl⟩
  obtain ⟨gq4, hgq4⟩ : ∃ q, q = g.decls.length := ⟨_, rfl⟩
  obtain ⟨gq5, hgq5⟩ : ∃ q, q = g.dc := ⟨_, rfl⟩
  obtain ⟨gq6, hgq6⟩ : ∃ q, q = g.ba := ⟨_, rfl⟩
  obtain ⟨gq7, hgq7⟩ : ∃ q, q = g.body.length := ⟨_, rfl⟩
  obtain ⟨gq8, hgq8⟩ : ∃ q, q = g.bc := ⟨_, rfl⟩
  simp only [← hgq0, ← hgq1, ← hgq2, ← hgq3, ← hgq4, ← hgq5, ← hgq6, ← hgq7, ← hgq8] at PS HL HF HD EQ hcap hcap2 ⊢
  have HN := Lib.hid hgq1
  have HM := Lib.hid hgq4
  clear hgq0 hgq1 hgq2 hgq3 hgq4 hgq5 hgq6 hgq7 hgq8
  replace EQ := Lib.hid EQ
  replace PS := Lib.hid PS
  replace HL := Lib.hid HL
  replace HF := Lib.hid HF
  replace HD := Lib.hid HD
  go_enter Tryd.func9, Tryd.ntmps9
  go_wp2_with fail
  obtain ⟨w1, hw1⟩ : ∃ q, q = w.alloc (.cells #[.slice gq0 gq1 gq2, .slice gq3 gq4 gq5, .slice gq6 gq7 gq8] 26) := ⟨_, rfl⟩
  have X1 : Ext w w1 := by rw [hw1]; exact (Ext.refl _).alloc _
  have c0 : w1.cell? ⟨w.heap.size, 0, none⟩ = some (.slice gq0 gq1 gq2) := by rw [hw1]; simp
  have c1 : w1.cell? ⟨w.heap.size, 1, none⟩ = some (.slice gq3 gq4 gq5) := by rw [hw1]; simp
  have c2 : w1.cell? ⟨w.heap.size, 2, none⟩ = some (.slice gq6 gq7 gq8) := by rw [hw1]; simp
  rw [← hw1]
  have HX1 := Lib.hid X1
  clear hw1 X1
  refine region_factsL [[], [(0, 8)], [(1, 9)], [], [(3, 11)], [(4, 12)], [(2, 10), (5, 13)], [], [(7, 15)], [(8, 16)], [(6, 14), (9, 17)], [(10, 18)]] [some 8, some 9, some 10, some 11, some 12, some 13, some 14, some 15, some 16, some 17, some 18, some 3] [false, true, false, false, false, false, false, false, false, false, false, false, false, false, false, false, false, false, false, false, false, false, false, false, false, false, false, false, false, false, false, false, false, false, false, false, false, false, false, false, false, false, false, false, false, false, false, false, false, false, false, false, false, false, false, false, false, false, false, false, false, false, false, false, false, false, false, false, false, false, false, false, false, false, false, false, false, false, false, false, false, false, false, false, false, false, false, false, false, false, false, false, false, false] (by kernel_rfl) (by kernel_rfl) (by kernel_rfl) ?_
  dsimp only [maskL]
  with_reducible apply FromM.eq
  · intro w' hx; (try dsimp only [List.nil_append, List.cons_append, DepsL, DepsL1, setO, setN, favs, opsOf]); go_wp2; exact OpPostE.some _ rfl rfl (Ext.refl _) rfl
  with_reducible apply FromM.eq
  · intro w' hx; have c0x := hx.cell c0; have c1x := hx.cell c1; have c2x := hx.cell c2; (try dsimp only [List.nil_append, List.cons_append, DepsL, DepsL1, setO, setN, favs, opsOf]); go_wp2; exact OpPostE.some _ rfl rfl (Ext.refl _) rfl
  refine FromM.step (WG0 d0) (WG0.mono) ?_ ?_
  · intro w' hx; (try dsimp only [List.nil_append, List.cons_append, DepsL, DepsL1, setO, setN, favs, opsOf]); skip;
    refine op_call 22 [.tmp 9, .const (.int .i64 600)] _ _ _ rfl rfl rfl rfl rfl rfl (fun _ _ => Tryd.call22 _ _) (PS.out _ (HL.out.to (HX1.out.trans hx))) (fun e w2 h_ => ?_); obtain ⟨r, rfl, hr1, hr2, hb2⟩ := h_; exact ⟨_, rfl, hb2, ⟨r, rfl, hr1, hr2⟩⟩
  with_reducible apply FromM.eq
  · intro w' hx; (try dsimp only [List.nil_append, List.cons_append, DepsL, DepsL1, setO, setN, favs, opsOf]); go_wp2; exact OpPostE.some _ rfl rfl (Ext.refl _) rfl
  with_reducible apply FromM.eq
  · intro w' hx; have c0x := hx.cell c0; have c1x := hx.cell c1; have c2x := hx.cell c2; (try dsimp only [List.nil_append, List.cons_append, DepsL, DepsL1, setO, setN, favs, opsOf]); go_wp2; exact OpPostE.some _ rfl rfl (Ext.refl _) rfl
  with_reducible apply FromM.eq
  · intro w' hx; have c0x := hx.cell c0; have c1x := hx.cell c1; have c2x := hx.cell c2; (try dsimp only [List.nil_append, List.cons_append, DepsL, DepsL1, setO, setN, favs, opsOf]); go_wp2; exact OpPostE.some _ rfl rfl (Ext.refl _) rfl
  -- 6: t14
  refine FromM.step (WG gq4 d0) WG.mono ?_ ?_
  · intro w' hx; (try dsimp only [List.nil_append, List.cons_append, DepsL, DepsL1, setO, setN, favs, opsOf]); rintro v2 k2; obtain ⟨r, rfl, hr1, hr2⟩ := k2; go_wp2; exact OpPostE.some _ rfl rfl (Ext.refl _) ⟨r, rfl, hr1, hr2⟩
  with_reducible apply FromM.eq
  · intro w' hx; (try dsimp only [List.nil_append, List.cons_append, DepsL, DepsL1, setO, setN, favs, opsOf]); go_wp2; exact OpPostE.some _ rfl rfl (Ext.refl _) rfl
  with_reducible apply FromM.eq
  · intro w' hx; have c0x := hx.cell c0; have c1x := hx.cell c1; have c2x := hx.cell c2; (try dsimp only [List.nil_append, List.cons_append, DepsL, DepsL1, setO, setN, favs, opsOf]); go_wp2; exact OpPostE.some _ rfl rfl (Ext.refl _) rfl
  with_reducible apply FromM.eq
  · intro w' hx; have c0x := hx.cell c0; have c1x := hx.cell c1; have c2x := hx.cell c2; (try dsimp only [List.nil_append, List.cons_append, DepsL, DepsL1, setO, setN, favs, opsOf]); go_wp2; exact OpPostE.some _ rfl rfl (Ext.refl _) rfl
  -- 10: t18
  refine FromM.step (WG2 gq4 gq1 d0) WG2.mono ?_ ?_
  · intro w' hx; (try dsimp only [List.nil_append, List.cons_append, DepsL, DepsL1, setO, setN, favs, opsOf]); rintro v6 k6; obtain ⟨r, rfl, hr1, hr2⟩ := k6; go_wp2; exact OpPostE.some _ rfl rfl (Ext.refl _) ⟨r, rfl, hr1, hr2⟩
  -- 11: t3
  refine FromM.step (WG2 gq4 gq1 d0) WG2.mono ?_ ?_
  · intro w' hx; (try dsimp only [List.nil_append, List.cons_append, DepsL, DepsL1, setO, setN, favs, opsOf]); rintro v10 k10; obtain ⟨r, rfl, hr1, hr2⟩ := k10; go_wp2; exact OpPostE.some _ rfl rfl (Ext.refl _) ⟨r, rfl, hr1, hr2⟩
  with_reducible refine FromM.fin ?_
  intro w' hx
  (try dsimp only [List.nil_append, List.cons_append, EndL, DepsL1, setO, setN]); rintro v2 k2 v6 k6 v10 k10 v11 k11
  obtain ⟨N0, rfl, hn1, hn2⟩ := k11
  have HX2 := Lib.hid (HX1.out.trans hx)
  replace c0 := hx.cell c0
  replace c1 := hx.cell c1
  clear hx c2 k2 k6 k10 HX1
  obtain ⟨S1, hS1⟩ : ∃ q, q = d0 + gq4 + gq1 + sumL wtF g.funcs := ⟨_, rfl⟩
  have HS1 := Lib.hid hS1
  clear hS1
  go_wp2_with fail
  go_loopw [3, 4] (SmRel wtF (d0 + gq4 + gq1) g.funcs w') (fun _ s _ => gq1 - (intOf s).toNat)
  case atStart => exact ⟨0, N0 + gq4 + gq1, rfl, by push_cast; rfl, Nat.zero_le _, by omega, fun h => by have := hn2 (by omega); show _ + 0 ≤ _; omega, Ext.refl _⟩
  case round =>
    obtain ⟨j, N, rfl, rfl, hj, hN, hI, hext⟩ := hrel
    rw [← HN.out] at hj
    replace c0 := hext.cell c0
    replace c1 := hext.cell c1
    have HX := Lib.hid (HX2.out.trans hext)
    have HW := Lib.hid hext
    replace hI := Lib.hid hI
    clear hext hn1 hn2
    by_cases hlt : j < gq1
    · by_cases hle : (N : Int) ≤ 600
      · obtain ⟨f, hfj⟩ := getE (l := g.funcs) (i := j) (by rw [← HN.out]; exact hlt)
        obtain ⟨⟨b, o, rfl, k0, k1, k2, k3, k4, k5, k6, k7, k8, k9⟩, hin⟩ := (HF.out.to HX.out).at hfj
        have ES : Hid (sumL wtF (g.funcs.take (j + 1)) = sumL wtF (g.funcs.take j) + (f.name.size + f.params.length + wtSs f.body + wtE f.e + sumL nmP f.params)) := Lib.hid (sumL_take wtF hfj)
        have PB := SC.out f.body f.body.length rfl f.ba f.bc
        have PE := WC.out f.e
        have hnm := hin.name
        have hpl : f.params.length ≤ 140737488355328 := hin.ps.2
        have LB := hin.body
        have LP := hin.ps
        have LE := Lib.hid hin.e
        obtain ⟨dB, hdB⟩ : ∃ q, q = wtSs f.body := ⟨_, rfl⟩
        obtain ⟨dE, hdE⟩ : ∃ q, q = wtE f.e := ⟨_, rfl⟩
        simp only [← hdB] at ES PB
        simp only [← hdE] at ES PE
        unfold E.v at PE
        clear hdB hdE hin hfj
        obtain ⟨fq0, hfq0⟩ : ∃ q, q = f.name := ⟨_, rfl⟩
        obtain ⟨fq1, hfq1⟩ : ∃ q, q = f.pa := ⟨_, rfl⟩
        obtain ⟨fq2, hfq2⟩ : ∃ q, q = f.params.length := ⟨_, rfl⟩
        obtain ⟨fq3, hfq3⟩ : ∃ q, q = f.pc := ⟨_, rfl⟩
        obtain ⟨fq4, hfq4⟩ : ∃ q, q = f.t.k := ⟨_, rfl⟩
        obtain ⟨fq5, hfq5⟩ : ∃ q, q = f.t.b := ⟨_, rfl⟩
        obtain ⟨fq6, hfq6⟩ : ∃ q, q = f.t.n := ⟨_, rfl⟩
        obtain ⟨fq7, hfq7⟩ : ∃ q, q = f.ba := ⟨_, rfl⟩
        obtain ⟨fq8, hfq8⟩ : ∃ q, q = f.body.length := ⟨_, rfl⟩
        obtain ⟨fq9, hfq9⟩ : ∃ q, q = f.bc := ⟨_, rfl⟩
        obtain ⟨fq10, hfq10⟩ : ∃ q, q = f.e.op := ⟨_, rfl⟩
        obtain ⟨fq11, hfq11⟩ : ∃ q, q = f.e.val := ⟨_, rfl⟩
        obtain ⟨fq12, hfq12⟩ : ∃ q, q = f.e.name := ⟨_, rfl⟩
        obtain ⟨fq13, hfq13⟩ : ∃ q, q = f.e.a := ⟨_, rfl⟩
        obtain ⟨fq14, hfq14⟩ : ∃ q, q = f.e.args.length := ⟨_, rfl⟩
        obtain ⟨fq15, hfq15⟩ : ∃ q, q = f.e.cap := ⟨_, rfl⟩
        simp only [← hfq0, ← hfq1, ← hfq2, ← hfq3, ← hfq4, ← hfq5, ← hfq6, ← hfq7, ← hfq8, ← hfq9, ← hfq10, ← hfq11, ← hfq12, ← hfq13, ← hfq14, ← hfq15] at k0 k1 k2 k3 k4 k5 k6 k7 k8 k9 PB PE LB LP hnm hpl ES
        have HP := Lib.hid hfq2
        clear hfq0 hfq1 hfq2 hfq3 hfq4 hfq5 hfq6 hfq7 hfq8 hfq9 hfq10 hfq11 hfq12 hfq13 hfq14 hfq15
        replace PB := Lib.hid PB
        replace PE := Lib.hid PE
        replace LB := Lib.hid LB
        replace LP := Lib.hid LP
        go_wp2_with fail
        obtain ⟨w3, hw3⟩ : ∃ q, q = wr.alloc (.cells #[.string fq0, .slice fq1 fq2 fq3, .int .i64 fq4, .int .i64 fq5, .int .i64 fq6, .slice fq7 fq8 fq9, .int .i64 fq10, .int .u64 (fq11 : Int), .string fq12, .slice fq13 fq14 fq15] 50) := ⟨_, rfl⟩
        have b0 : w3.cell? ⟨wr.heap.size, 0, none⟩ = some (.string fq0) := by rw [hw3]; simp
        have b1 : w3.cell? ⟨wr.heap.size, 1, none⟩ = some (.slice fq1 fq2 fq3) := by rw [hw3]; simp
        have b2 : w3.cell? ⟨wr.heap.size, 2, none⟩ = some (.int .i64 fq4) := by rw [hw3]; simp
        have b3 : w3.cell? ⟨wr.heap.size, 3, none⟩ = some (.int .i64 fq5) := by rw [hw3]; simp
        have b4 : w3.cell? ⟨wr.heap.size, 4, none⟩ = some (.int .i64 fq6) := by rw [hw3]; simp
        have b5 : w3.cell? ⟨wr.heap.size, 5, none⟩ = some (.slice fq7 fq8 fq9) := by rw [hw3]; simp
        have b6 : w3.cell? ⟨wr.heap.size, 6, none⟩ = some (.int .i64 fq10) := by rw [hw3]; simp
        have b7 : w3.cell? ⟨wr.heap.size, 7, none⟩ = some (.int .u64 (fq11 : Int)) := by rw [hw3]; simp
        have b8 : w3.cell? ⟨wr.heap.size, 8, none⟩ = some (.string fq12) := by rw [hw3]; simp
        have b9 : w3.cell? ⟨wr.heap.size, 9, none⟩ = some (.slice fq13 fq14 fq15) := by rw [hw3]; simp
        have XB : Ext wr w3 := by rw [hw3]; exact (Ext.refl _).alloc _
        rw [← hw3]
        clear k0 k1 k2 k3 k4 k5 k6 k7 k8 k9 hw3
        have HXB := Lib.hid XB
        clear XB
        refine region_factsL [[], [], [(1, 36)], [(2, 37)], [(0, 35), (3, 38)], [], [(5, 40)], [(6, 41)], [(4, 39), (7, 42)], [], [(9, 44)], [(10, 45)], [(8, 43), (11, 46)], [], [(13, 48)], [(14, 49)]] [some 35, some 36, some 37, some 38, some 39, some 40, some 41, some 42, some 43, some 44, some 45, some 46, some 47, some 48, some 49, some 50] [false, false, false, true, false, true, false, false, false, false, false, false, false, false, false, false, false, false, false, false, false, false, false, false, false, false, false, false, false, false, false, false, false, false, false, false, false, false, false, false, false, false, false, false, false, false, false, false, false, false, false, false, false, false, false, false, false, false, false, false, false, false, false, false, false, false, false, false, false, false, false, false, false, false, false, false, false, false, false, false, false, false, false, false, false, false, false, false, false, false, false, false, false, false] (by kernel_rfl) (by kernel_rfl) (by kernel_rfl) ?_
        dsimp only [maskL]
        with_reducible apply FromM.eq
        · intro w' hx; (try dsimp only [List.nil_append, List.cons_append, DepsL, DepsL1, setO, setN, favs, opsOf]); go_wp2; exact OpPostE.some _ rfl rfl (Ext.refl _) rfl
        with_reducible apply FromM.eq
        · intro w' hx; (try dsimp only [List.nil_append, List.cons_append, DepsL, DepsL1, setO, setN, favs, opsOf]); go_wp2; exact OpPostE.some _ rfl rfl (Ext.refl _) rfl
        with_reducible apply FromM.eq
        · intro w' hx; have b0x := hx.cell b0; have b1x := hx.cell b1; have b2x := hx.cell b2; have b3x := hx.cell b3; have b4x := hx.cell b4; have b5x := hx.cell b5; have b6x := hx.cell b6; have b7x := hx.cell b7; have b8x := hx.cell b8; have b9x := hx.cell b9; (try dsimp only [List.nil_append, List.cons_append, DepsL, DepsL1, setO, setN, favs, opsOf]); go_wp2; exact OpPostE.some _ rfl rfl (Ext.refl _) rfl
        with_reducible apply FromM.eq
        · intro w' hx; have b0x := hx.cell b0; have b1x := hx.cell b1; have b2x := hx.cell b2; have b3x := hx.cell b3; have b4x := hx.cell b4; have b5x := hx.cell b5; have b6x := hx.cell b6; have b7x := hx.cell b7; have b8x := hx.cell b8; have b9x := hx.cell b9; (try dsimp only [List.nil_append, List.cons_append, DepsL, DepsL1, setO, setN, favs, opsOf]); go_wp2; exact OpPostE.some _ rfl rfl (Ext.refl _) rfl
        with_reducible apply FromM.eq
        · intro w' hx; (try dsimp only [List.nil_append, List.cons_append, DepsL, DepsL1, setO, setN, favs, opsOf]); go_wp2; exact OpPostE.some _ rfl rfl (Ext.refl _) rfl
        with_reducible apply FromM.eq
        · intro w' hx; (try dsimp only [List.nil_append, List.cons_append, DepsL, DepsL1, setO, setN, favs, opsOf]); go_wp2; exact OpPostE.some _ rfl rfl (Ext.refl _) rfl
        with_reducible apply FromM.eq
        · intro w' hx; have b0x := hx.cell b0; have b1x := hx.cell b1; have b2x := hx.cell b2; have b3x := hx.cell b3; have b4x := hx.cell b4; have b5x := hx.cell b5; have b6x := hx.cell b6; have b7x := hx.cell b7; have b8x := hx.cell b8; have b9x := hx.cell b9; (try dsimp only [List.nil_append, List.cons_append, DepsL, DepsL1, setO, setN, favs, opsOf]); go_wp2; exact OpPostE.some _ rfl rfl (Ext.refl _) rfl
        with_reducible apply FromM.eq
        · intro w' hx; have b0x := hx.cell b0; have b1x := hx.cell b1; have b2x := hx.cell b2; have b3x := hx.cell b3; have b4x := hx.cell b4; have b5x := hx.cell b5; have b6x := hx.cell b6; have b7x := hx.cell b7; have b8x := hx.cell b8; have b9x := hx.cell b9; (try dsimp only [List.nil_append, List.cons_append, DepsL, DepsL1, setO, setN, favs, opsOf]); go_wp2; exact OpPostE.some _ rfl rfl (Ext.refl _) rfl
        with_reducible apply FromM.eq
        · intro w' hx; (try dsimp only [List.nil_append, List.cons_append, DepsL, DepsL1, setO, setN, favs, opsOf]); go_wp2; exact OpPostE.some _ rfl rfl (Ext.refl _) rfl
        with_reducible apply FromM.eq
        · intro w' hx; (try dsimp only [List.nil_append, List.cons_append, DepsL, DepsL1, setO, setN, favs, opsOf]); go_wp2; exact OpPostE.some _ rfl rfl (Ext.refl _) rfl
        with_reducible apply FromM.eq
        · intro w' hx; have b0x := hx.cell b0; have b1x := hx.cell b1; have b2x := hx.cell b2; have b3x := hx.cell b3; have b4x := hx.cell b4; have b5x := hx.cell b5; have b6x := hx.cell b6; have b7x := hx.cell b7; have b8x := hx.cell b8; have b9x := hx.cell b9; (try dsimp only [List.nil_append, List.cons_append, DepsL, DepsL1, setO, setN, favs, opsOf]); go_wp2; exact OpPostE.some _ rfl rfl (Ext.refl _) rfl
        refine FromM.step (WG0 dB) (WG0.mono) ?_ ?_
        · intro w' hx; (try dsimp only [List.nil_append, List.cons_append, DepsL, DepsL1, setO, setN, favs, opsOf]); skip;
          refine op_call 22 [.tmp 45, .const (.int .i64 600)] _ _ _ rfl rfl rfl rfl rfl rfl (fun _ _ => Tryd.call22 _ _) (PB.out _ (LB.out.to (HXB.out.trans hx))) (fun e w2 h_ => ?_); obtain ⟨r, rfl, hr1, hr2, hb2⟩ := h_; exact ⟨_, rfl, hb2, ⟨r, rfl, hr1, hr2⟩⟩
        -- 12: t47
        refine FromM.step (WG3 N fq0.size fq2 dB) WG3.mono ?_ ?_
        · intro w' hx; (try dsimp only [List.nil_append, List.cons_append, DepsL, DepsL1, setO, setN, favs, opsOf]); rintro v11 k11; obtain ⟨r, rfl, hr1, hr2⟩ := k11; go_wp2; exact OpPostE.some _ rfl rfl (Ext.refl _) ⟨r, rfl, hr1, hr2⟩
        with_reducible apply FromM.eq
        · intro w' hx; (try dsimp only [List.nil_append, List.cons_append, DepsL, DepsL1, setO, setN, favs, opsOf]); go_wp2; exact OpPostE.some _ rfl rfl (Ext.refl _) rfl
        with_reducible apply FromM.eq
        · intro w' hx; have b0x := hx.cell b0; have b1x := hx.cell b1; have b2x := hx.cell b2; have b3x := hx.cell b3; have b4x := hx.cell b4; have b5x := hx.cell b5; have b6x := hx.cell b6; have b7x := hx.cell b7; have b8x := hx.cell b8; have b9x := hx.cell b9; (try dsimp only [List.nil_append, List.cons_append, DepsL, DepsL1, setO, setN, favs, opsOf]); go_wp2; exact OpPostE.some _ rfl rfl (Ext.refl _) rfl
        refine FromM.step (WG0 dE) (WG0.mono) ?_ ?_
        · intro w' hx; (try dsimp only [List.nil_append, List.cons_append, DepsL, DepsL1, setO, setN, favs, opsOf]); skip;
          refine op_call 23 [.tmp 49, .const (.int .i64 600)] _ _ _ rfl rfl rfl rfl rfl rfl (fun _ _ => Tryd.call23 _ _) (PE.out _ (LE.out.to (HXB.out.trans hx))) (fun e w2 h_ => ?_); obtain ⟨r, rfl, hr1, hr2, hb2⟩ := h_; exact ⟨_, rfl, hb2, ⟨r, rfl, by omega, hr2⟩⟩
        with_reducible refine FromM.fin ?_
        intro w' hx
        (try dsimp only [List.nil_append, List.cons_append, EndL, DepsL1, setO, setN]); rintro v11 k11 v12 k12 v15 k15
        obtain ⟨rB, rfl, hB1, hB2⟩ := k12
        obtain ⟨rE, rfl, hE1, hE2⟩ := k15
        have XX := HXB.out.trans hx
        replace c0 := XX.cell c0
        replace c1 := XX.cell c1
        replace b1 := hx.cell b1
        have HX3 := Lib.hid (HX.out.trans XX)
        have HQ := Lib.hid XX
        have HW3 := Lib.hid (HW.out.trans XX)
        replace hB2 := Lib.hid hB2
        replace hE2 := Lib.hid hE2
        clear b0 b2 b3 b4 b5 b6 b7 b8 b9 hx XX k11
        obtain ⟨S0, hS0⟩ : ∃ q, q = d0 + gq4 + gq1 + sumL wtF (g.funcs.take j) := ⟨_, rfl⟩
        rw [← hS0] at hI
        have HS0 := Lib.hid hS0
        clear hS0
        go_wp2_with fail
        go_loopw [3, 6] (SmRel nmP (S0 + (fq0.size + fq2 + dB + dE)) f.params w') (fun _ s _ => fq2 - (intOf s).toNat)
        case atStart => exact ⟨0, N + fq0.size + fq2 + rB + rE, rfl, by push_cast; rfl, Nat.zero_le _, by omega, fun h => by have := hI.out (by omega); have := hB2.out (by omega); have := hE2.out (by omega); show _ + 0 ≤ _; omega, Ext.refl _⟩
        case round =>
          obtain ⟨i, M, rfl, rfl, hi, hM, hJ, hext⟩ := hrel
          rw [← HP.out] at hi
          replace c0 := hext.cell c0
          replace c1 := hext.cell c1
          replace b1 := hext.cell b1
          have HX4 := Lib.hid (HX3.out.trans hext)
          have HW4 := Lib.hid (HW3.out.trans hext)
          have HV := Lib.hid hext
          replace hJ := Lib.hid hJ
          clear hext hB1 hE1
          by_cases hlt2 : i < fq2
          · by_cases hle2 : (M : Int) ≤ 600
            · obtain ⟨u, hqi⟩ := getE (l := f.params) (i := i) (by rw [← HP.out]; exact hlt2)
              obtain ⟨⟨bp, op, rfl, p0, p1, p2, p3⟩, hinp⟩ := (LP.out.to (HQ.out.trans HV.out)).at hqi
              have EP : Hid (sumL nmP (f.params.take (i + 1)) = sumL nmP (f.params.take i) + u.name.size) := Lib.hid (sumL_take nmP hqi)
              have hqn := hinp.2
              clear hqi hinp
              obtain ⟨uq0, huq0⟩ : ∃ q, q = u.name := ⟨_, rfl⟩
              obtain ⟨uq1, huq1⟩ : ∃ q, q = u.t.k := ⟨_, rfl⟩
              obtain ⟨uq2, huq2⟩ : ∃ q, q = u.t.b := ⟨_, rfl⟩
              obtain ⟨uq3, huq3⟩ : ∃ q, q = u.t.n := ⟨_, rfl⟩
              simp only [← huq0, ← huq1, ← huq2, ← huq3] at p0 p1 p2 p3 EP hqn
              clear huq0 huq1 huq2 huq3
              go_wp2_with fail
              go_roundw
              case rel => exact ⟨i + 1, M + uq0.size, by go_num, by go_num, by rw [← HP.out]; omega, by omega, fun h => by rw [EP.out]; have := hJ.out (by omega); omega, HV.out⟩
              case measure => simp [intOf]; omega
            · go_wp2_with fail
              go_roundw
              case rel => exact ⟨j + 1, M, by go_num, rfl, by rw [← HN.out]; omega, hM, fun h => absurd h (by omega), HW4.out⟩
              case measure => simp [intOf]; omega
          · obtain rfl : i = fq2 := by omega
            have ET : Hid (f.params.take i = f.params) := Lib.hid (List.take_of_length_le (by rw [← HP.out]; exact Nat.le_refl _))
            rw [ET.out] at hJ
            go_wp2_with fail
            go_roundw
            case rel => exact ⟨j + 1, M, by go_num, rfl, by rw [← HN.out]; omega, hM, fun h => by rw [ES.out]; have := hJ.out h; have := HS0.out; omega, HW4.out⟩
            case measure => simp [intOf]; omega
      · have hO : Hid (N ≤ 600 → S1 ≤ N) := Lib.hid (fun h => absurd h (by omega))
        go_wp2_with fail
        go_loopw [3, 7] (SmRel nmD S1 g.decls wr) (fun _ s _ => gq4 - (intOf s).toNat)
        case atStart => exact ⟨0, N, rfl, rfl, Nat.zero_le _, hN, fun h => by have := hO.out h; show _ + 0 ≤ _; omega, Ext.refl _⟩
        case round =>
          obtain ⟨i, M, rfl, rfl, hi, hM2, hJ, hext⟩ := hrel
          rw [← HM.out] at hi
          replace c1 := hext.cell c1
          have HX5 := Lib.hid (HX.out.trans hext)
          have HV := Lib.hid hext
          replace hJ := Lib.hid hJ
          clear hext
          by_cases hlt2 : i < gq4
          · by_cases hle2 : (M : Int) ≤ 600
            · obtain ⟨u, hqi⟩ := getE (l := g.decls) (i := i) (by rw [← HM.out]; exact hlt2)
              obtain ⟨⟨bp, op, rfl, p0, p1, p2, p3, p4⟩, hinp⟩ := (HD.out.to HX5.out).at hqi
              have EP : Hid (sumL nmD (g.decls.take (i + 1)) = sumL nmD (g.decls.take i) + u.name.size) := Lib.hid (sumL_take nmD hqi)
              have hqn := hinp.2
              clear hqi hinp
              obtain ⟨uq0, huq0⟩ : ∃ q, q = u.pub := ⟨_, rfl⟩
              obtain ⟨uq1, huq1⟩ : ∃ q, q = u.name := ⟨_, rfl⟩
              obtain ⟨uq2, huq2⟩ : ∃ q, q = u.t.k := ⟨_, rfl⟩
              obtain ⟨uq3, huq3⟩ : ∃ q, q = u.t.b := ⟨_, rfl⟩
              obtain ⟨uq4, huq4⟩ : ∃ q, q = u.t.n := ⟨_, rfl⟩
              simp only [← huq0, ← huq1, ← huq2, ← huq3, ← huq4] at p0 p1 p2 p3 p4 EP hqn
              clear huq0 huq1 huq2 huq3 huq4
              go_wp2_with fail
              go_roundw
              case rel => exact ⟨i + 1, M + uq1.size, by go_num, by go_num, by rw [← HM.out]; omega, by omega, fun h => by rw [EP.out]; have := hJ.out (by omega); omega, HV.out⟩
              case measure => simp [intOf]; omega
            · have X := HX5.out
              go_wp2_with fail
              go_ret
              exact SmP.mk false rfl (fun h => by cases h) X
          · obtain rfl : i = gq4 := by omega
            have hR : Hid (M ≤ 600 → T ≤ M) := Lib.hid (fun h => by have := hJ.out h; rw [show g.decls.take i = g.decls from List.take_of_length_le (by rw [← HM.out]; exact Nat.le_refl _)] at this; have := HS1.out; have := EQ.out; omega)
            have X := HX5.out
            by_cases h6 : (M : Int) ≤ 600
            · go_wp2_with fail
              go_ret
              exact SmP.mk true rfl (fun _ => by have := hR.out (by omega); omega) X
            · go_wp2_with fail
              go_ret
              exact SmP.mk false rfl (fun h => by cases h) X
    · obtain rfl : j = gq1 := by omega
      have hO : Hid (N ≤ 600 → S1 ≤ N) := Lib.hid (fun h => by have := hI.out h; rw [show g.funcs.take j = g.funcs from List.take_of_length_le (by rw [← HN.out]; exact Nat.le_refl _)] at this; have := HS1.out; omega)
      go_wp2_with fail
      go_loopw [3, 7] (SmRel nmD S1 g.decls wr) (fun _ s _ => gq4 - (intOf s).toNat)
      case atStart => exact ⟨0, N, rfl, rfl, Nat.zero_le _, hN, fun h => by have := hO.out h; show _ + 0 ≤ _; omega, Ext.refl _⟩
      case round =>
        obtain ⟨i, M, rfl, rfl, hi, hM2, hJ, hext⟩ := hrel
        rw [← HM.out] at hi
        replace c1 := hext.cell c1
        have HX5 := Lib.hid (HX.out.trans hext)
        have HV := Lib.hid hext
        replace hJ := Lib.hid hJ
        clear hext
        by_cases hlt2 : i < gq4
        · by_cases hle2 : (M : Int) ≤ 600
          · obtain ⟨u, hqi⟩ := getE (l := g.decls) (i := i) (by rw [← HM.out]; exact hlt2)
            obtain ⟨⟨bp, op, rfl, p0, p1, p2, p3, p4⟩, hinp⟩ := (HD.out.to HX5.out).at hqi
            have EP : Hid (sumL nmD (g.decls.take (i + 1)) = sumL nmD (g.decls.take i) + u.name.size) := Lib.hid (sumL_take nmD hqi)
            have hqn := hinp.2
            clear hqi hinp
            obtain ⟨uq0, huq0⟩ : ∃ q, q = u.pub := ⟨_, rfl⟩
            obtain ⟨uq1, huq1⟩ : ∃ q, q = u.name := ⟨_, rfl⟩
            obtain ⟨uq2, huq2⟩ : ∃ q, q = u.t.k := ⟨_, rfl⟩
            obtain ⟨uq3, huq3⟩ : ∃ q, q = u.t.b := ⟨_, rfl⟩
            obtain ⟨uq4, huq4⟩ : ∃ q, q = u.t.n := ⟨_, rfl⟩
            simp only [← huq0, ← huq1, ← huq2, ← huq3, ← huq4] at p0 p1 p2 p3 p4 EP hqn
            clear huq0 huq1 huq2 huq3 huq4
            go_wp2_with fail
            go_roundw
            case rel => exact ⟨i + 1, M + uq1.size, by go_num, by go_num, by rw [← HM.out]; omega, by omega, fun h => by rw [EP.out]; have := hJ.out (by omega); omega, HV.out⟩
            case measure => simp [intOf]; omega
          · have X := HX5.out
            go_wp2_with fail
            go_ret
            exact SmP.mk false rfl (fun h => by cases h) X
        · obtain rfl : i = gq4 := by omega
          have hR : Hid (M ≤ 600 → T ≤ M) := Lib.hid (fun h => by have := hJ.out h; rw [show g.decls.take i = g.decls from List.take_of_length_le (by rw [← HM.out]; exact Nat.le_refl _)] at this; have := HS1.out; have := EQ.out; omega)
          have X := HX5.out
          by_cases h6 : (M : Int) ≤ 600
          · go_wp2_with fail
            go_ret
            exact SmP.mk true rfl (fun _ => by have := hR.out (by omega); omega) X
          · go_wp2_with fail
            go_ret
            exact SmP.mk false rfl (fun h => by cases h) X
end Go.Proofs.YtcheigpejbmaoaaDoor
