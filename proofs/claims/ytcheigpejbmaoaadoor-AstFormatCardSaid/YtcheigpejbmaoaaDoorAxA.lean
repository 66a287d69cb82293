/- The document's weights: what they say of the size of statements. Printed by gen/ast8.py. -/
import Derived.Test.YtcheigpejbmaoaaDoorAx9
namespace Go.Proofs.YtcheigpejbmaoaaDoor
open Go.RowKit
mutual
/-- Statements, nodes and bytes of names. -/
def wtS : S → Nat
  | .mk _ n _ _ e _ _ _ _ l => n.size + wtE e + wtSs l + 1
def wtSs : List S → Nat
  | [] => 0
  | x :: l => wtS x + wtSs l
end
theorem wtSs_snoc : ∀ (l : List S) (e : S), wtSs (l ++ [e]) = wtSs l + wtS e
  | [], e => by show wtS e + 0 = 0 + wtS e; omega
  | x :: l, e => by show wtS x + wtSs (l ++ [e]) = wtS x + wtSs l + wtS e; rw [wtSs_snoc l e]; omega
theorem wtS_eq (e : S) : wtS e = e.name.size + wtE e.e + wtSs e.body + 1 := by obtain ⟨k, n, ty, t, x, lo, hi, a, c, l⟩ := e; rfl
def WF (z : Int) (d : Nat) : Fact := fun _ v => ∃ n : Nat, v = .int .i64 n ∧ (n : Int) ≤ z + 140737488355329 ∧ ((n : Int) ≤ z → d ≤ n)
theorem WF.mono {z : Int} {d : Nat} : Mono (WF z d) := fun _ _ _ _ h => h
def WsRel (l : List S) (z : Int) (w1 : World) (s5 s6 : Value) (wr : World) : Prop := ∃ j N : Nat, s6 = .int .i64 j ∧ s5 = .int .i64 N ∧ j ≤ l.length ∧ (N : Int) ≤ 2 * z + 281474976710657 ∧ ((N : Int) ≤ z → l.length + wtSs (l.take j) ≤ N + j) ∧ Ext w1 wr
set_option maxRecDepth 100000 in
set_option maxHeartbeats 4000000 in
theorem weights_n : ∀ (m : Nat) (l : List S), S.szs l < m → ∀ (n : Nat) (_ : l.length = n) (a : Option Addr) (c : Nat) (z : Int), 0 ≤ z → z ≤ 600 → ∀ w, InB w a l → Calls Tryd.prog 22 #[.slice a n c, .int .i64 z] w fun r w' => ∃ N : Nat, r = .returned (.int .i64 N) ∧ (N : Int) ≤ 2 * z + 281474976710657 ∧ ((N : Int) ≤ z → wtSs l ≤ N) ∧ Ext w w' := by
  intro m
  induction m with
  | zero => intro e h; exact absurd h (by omega)
  | succ m ih =>
    intro l hm n hn a c z hz0 hz1 w hl
    have IH := Lib.hid (fun (i : Nat) (x : S) (hx : l[i]? = some x) => ih x.body (by have := S.szs_get hx; have := S.sz_eq x; omega) x.body.length rfl x.a x.cap)
    have WC := Lib.hid (fun (e : E) (w' : World) h => Weight_c e z hz0 hz1 w' h)
    have HL := Lib.hid hl
    have hlen : n ≤ 140737488355328 := by rw [← hn]; exact hl.2
    have hcap : n ≤ 9223372036854775807 := by omega
    have HN := Lib.hid hn
    clear ih hl hn hm
    go_enter Tryd.func22, Tryd.ntmps22
    go_wp2_with fail
    go_loopw [5, 6] (WsRel l z w) (fun _ s _ => n - (intOf s).toNat)
    case atStart => exact ⟨0, n, rfl, rfl, Nat.zero_le _, by omega, fun _ => by rw [HN.out]; exact Nat.le_refl _, Ext.refl _⟩
    case round =>
      obtain ⟨j, N, rfl, rfl, hj, hN, hI, hext⟩ := hrel
      rw [HN.out] at hj
      have HX := Lib.hid hext
      replace hI := Lib.hid hI
      clear hext
      by_cases hlt : j < n
      · by_cases hle : (N : Int) ≤ z
        · obtain ⟨x, hxj⟩ := getE (l := l) (i := j) (by rw [HN.out]; exact hlt)
          obtain ⟨⟨b, o, rfl, k0, k1, k2, k3, k4, k5, k6, k7, k8, k9, k10, k11, k12⟩, hin⟩ := (HL.out.to HX.out).at hxj
          have PW := WC.out x.e
          have PS := IH.out j x hxj
          have hnm := hin.bd.name
          have LI := hin.l
          have ES : Hid (wtSs (l.take (j + 1)) = wtSs (l.take j) + (x.name.size + wtE x.e + wtSs x.body + 1)) := Lib.hid (by rw [take_snoc hxj, wtSs_snoc, wtS_eq])
          obtain ⟨d, hd⟩ : ∃ q, q = wtE x.e := ⟨_, rfl⟩
          obtain ⟨d2, hd2⟩ : ∃ q, q = wtSs x.body := ⟨_, rfl⟩
          simp only [← hd] at ES PW
          simp only [← hd2] at ES PS
          have HIN := Lib.hid hin
          clear hd hd2 hxj hin
          unfold E.v at PW
          obtain ⟨xq0, hxq0⟩ : ∃ q, q = x.kind := ⟨_, rfl⟩
          obtain ⟨xq1, hxq1⟩ : ∃ q, q = x.name := ⟨_, rfl⟩
          obtain ⟨xq2, hxq2⟩ : ∃ q, q = x.typed := ⟨_, rfl⟩
          obtain ⟨xq3, hxq3⟩ : ∃ q, q = x.t.k := ⟨_, rfl⟩
          obtain ⟨xq4, hxq4⟩ : ∃ q, q = x.t.b := ⟨_, rfl⟩
          obtain ⟨xq5, hxq5⟩ : ∃ q, q = x.t.n := ⟨_, rfl⟩
          obtain ⟨xq6, hxq6⟩ : ∃ q, q = x.e.op := ⟨_, rfl⟩
          obtain ⟨xq7, hxq7⟩ : ∃ q, q = x.e.val := ⟨_, rfl⟩
          obtain ⟨xq8, hxq8⟩ : ∃ q, q = x.e.name := ⟨_, rfl⟩
          obtain ⟨xq9, hxq9⟩ : ∃ q, q = x.e.a := ⟨_, rfl⟩
          obtain ⟨xq10, hxq10⟩ : ∃ q, q = x.e.args.length := ⟨_, rfl⟩
          obtain ⟨xq11, hxq11⟩ : ∃ q, q = x.e.cap := ⟨_, rfl⟩
          obtain ⟨xq12, hxq12⟩ : ∃ q, q = x.lo := ⟨_, rfl⟩
          obtain ⟨xq13, hxq13⟩ : ∃ q, q = x.hi := ⟨_, rfl⟩
          obtain ⟨xq14, hxq14⟩ : ∃ q, q = x.a := ⟨_, rfl⟩
          obtain ⟨xq15, hxq15⟩ : ∃ q, q = x.body.length := ⟨_, rfl⟩
          obtain ⟨xq16, hxq16⟩ : ∃ q, q = x.cap := ⟨_, rfl⟩
          simp only [← hxq0, ← hxq1, ← hxq2, ← hxq3, ← hxq4, ← hxq5, ← hxq6, ← hxq7, ← hxq8, ← hxq9, ← hxq10, ← hxq11, ← hxq12, ← hxq13, ← hxq14, ← hxq15, ← hxq16] at k0 k1 k2 k3 k4 k5 k6 k7 k8 k9 k10 k11 k12 PW PS LI hnm ES
          clear hxq0 hxq1 hxq2 hxq3 hxq4 hxq5 hxq6 hxq7 hxq8 hxq9 hxq10 hxq11 hxq12 hxq13 hxq14 hxq15 hxq16
          replace PW := Lib.hid PW
          replace PS := Lib.hid PS
          replace LI := Lib.hid LI
          go_wp2_with fail
          refine region_factsL [[], [], [], [(1, 21), (2, 22)], [(3, 23)], [(4, 24)], [(5, 25)], [(0, 20), (6, 26)], [], [], [(8, 28), (9, 29)], [(10, 30)], [(11, 31)], [], [(12, 32), (13, 33)]] [some 20, some 21, some 22, some 23, some 24, some 25, some 26, some 27, some 28, some 29, some 30, some 31, some 32, some 33, some 34] [true, true, false, false, false, true, true, false, false, false, false, false, false, false, false, false, false, false, false, false, false, false, false, false, false, false, false, false, false, false, false, false, false, false, false, false, false, false, false, false, false, false, false, false, false, false, false, false, false, false, false] (by kernel_rfl) (by kernel_rfl) (by kernel_rfl) ?_
          dsimp only [maskL]
          with_reducible apply FromM.eq
          · intro w' hx; (try dsimp only [List.nil_append, List.cons_append, DepsL, DepsL1, setO, setN, favs, opsOf]); go_wp2; exact OpPostE.some _ rfl rfl (Ext.refl _) rfl
          with_reducible apply FromM.eq
          · intro w' hx; (try dsimp only [List.nil_append, List.cons_append, DepsL, DepsL1, setO, setN, favs, opsOf]); go_wp2; exact OpPostE.some _ rfl rfl (Ext.refl _) rfl
          with_reducible apply FromM.eq
          · intro w' hx; (try dsimp only [List.nil_append, List.cons_append, DepsL, DepsL1, setO, setN, favs, opsOf]); go_wp2; exact OpPostE.some _ rfl rfl (Ext.refl _) rfl
          with_reducible apply FromM.eq
          · intro w' hx; (try dsimp only [List.nil_append, List.cons_append, DepsL, DepsL1, setO, setN, favs, opsOf]); go_wp2; exact OpPostE.some _ rfl rfl (Ext.refl _) rfl
          with_reducible apply FromM.eq
          · intro w' hx; (try dsimp only [List.nil_append, List.cons_append, DepsL, DepsL1, setO, setN, favs, opsOf]); go_wp2; exact OpPostE.some _ rfl rfl (Ext.refl _) rfl
          with_reducible apply FromM.eq
          · intro w' hx; have k0x := hx.cell k0; have k1x := hx.cell k1; have k2x := hx.cell k2; have k3x := hx.cell k3; have k4x := hx.cell k4; have k5x := hx.cell k5; have k6x := hx.cell k6; have k7x := hx.cell k7; have k8x := hx.cell k8; have k9x := hx.cell k9; have k10x := hx.cell k10; have k11x := hx.cell k11; have k12x := hx.cell k12; (try dsimp only [List.nil_append, List.cons_append, DepsL, DepsL1, setO, setN, favs, opsOf]); go_wp2; exact OpPostE.some _ rfl rfl (Ext.refl _) rfl
          with_reducible apply FromM.eq
          · intro w' hx; have k0x := hx.cell k0; have k1x := hx.cell k1; have k2x := hx.cell k2; have k3x := hx.cell k3; have k4x := hx.cell k4; have k5x := hx.cell k5; have k6x := hx.cell k6; have k7x := hx.cell k7; have k8x := hx.cell k8; have k9x := hx.cell k9; have k10x := hx.cell k10; have k11x := hx.cell k11; have k12x := hx.cell k12; (try dsimp only [List.nil_append, List.cons_append, DepsL, DepsL1, setO, setN, favs, opsOf]); go_wp2; exact OpPostE.some _ rfl rfl (Ext.refl _) rfl
          with_reducible apply FromM.eq
          · intro w' hx; (try dsimp only [List.nil_append, List.cons_append, DepsL, DepsL1, setO, setN, favs, opsOf]); go_wp2; exact OpPostE.some _ rfl rfl (Ext.refl _) rfl
          with_reducible apply FromM.eq
          · intro w' hx; (try dsimp only [List.nil_append, List.cons_append, DepsL, DepsL1, setO, setN, favs, opsOf]); go_wp2; exact OpPostE.some _ rfl rfl (Ext.refl _) rfl
          with_reducible apply FromM.eq
          · intro w' hx; (try dsimp only [List.nil_append, List.cons_append, DepsL, DepsL1, setO, setN, favs, opsOf]); go_wp2; exact OpPostE.some _ rfl rfl (Ext.refl _) rfl
          with_reducible apply FromM.eq
          · intro w' hx; (try dsimp only [List.nil_append, List.cons_append, DepsL, DepsL1, setO, setN, favs, opsOf]); go_wp2; exact OpPostE.some _ rfl rfl (Ext.refl _) rfl
          with_reducible apply FromM.eq
          · intro w' hx; (try dsimp only [List.nil_append, List.cons_append, DepsL, DepsL1, setO, setN, favs, opsOf]); go_wp2; exact OpPostE.some _ rfl rfl (Ext.refl _) rfl
          with_reducible apply FromM.eq
          · intro w' hx; have k0x := hx.cell k0; have k1x := hx.cell k1; have k2x := hx.cell k2; have k3x := hx.cell k3; have k4x := hx.cell k4; have k5x := hx.cell k5; have k6x := hx.cell k6; have k7x := hx.cell k7; have k8x := hx.cell k8; have k9x := hx.cell k9; have k10x := hx.cell k10; have k11x := hx.cell k11; have k12x := hx.cell k12; (try dsimp only [List.nil_append, List.cons_append, DepsL, DepsL1, setO, setN, favs, opsOf]); go_wp2; exact OpPostE.some _ rfl rfl (Ext.refl _) rfl
          with_reducible apply FromM.eq
          · intro w' hx; (try dsimp only [List.nil_append, List.cons_append, DepsL, DepsL1, setO, setN, favs, opsOf]); go_wp2; exact OpPostE.some _ rfl rfl (Ext.refl _) rfl
          refine FromM.step (WF z d) (WF.mono) ?_ ?_
          · intro w' hx; (try dsimp only [List.nil_append, List.cons_append, DepsL, DepsL1, setO, setN, favs, opsOf]); skip;
            refine op_call 23 [.tmp 32, .tmp 33] _ _ _ rfl rfl rfl rfl rfl rfl (fun _ _ => Tryd.call23 _ _) (PW.out _ (HIN.out.e.to hx)) (fun e w2 h_ => ?_); obtain ⟨r, rfl, hr1, hr2, hb2⟩ := h_; exact ⟨_, rfl, hb2, ⟨r, rfl, hr1, hr2⟩⟩
          with_reducible refine FromM.fin ?_
          intro w' hx
          (try dsimp only [List.nil_append, List.cons_append, EndL, DepsL1, setO, setN]); rintro v14 k14
          obtain ⟨r, rfl, hr1, hr2⟩ := k14
          have HR2 := Lib.hid hr2
          clear hr2
          by_cases h3 : (N : Int) + (xq1.size : Int) + (r : Int) ≤ z
          · have k12x := hx.cell k12
            have LX := Lib.hid (LI.out.to hx)
            have HXX := Lib.hid (HX.out.trans hx)
            clear k0 k1 k2 k3 k4 k5 k6 k7 k8 k9 k10 k11 k12 hx
            have PS2 := Lib.hid (PS.out (z - (N + xq1.size + r)) (by omega) (by omega))
            go_wp2_with fail
            refine (PS2.out _ LX.out).mono ?_; rintro e w2 ⟨r2, rfl, hs1, hs2, x2⟩
            have X2 := Lib.hid (HXX.out.trans x2)
            clear x2 k12x
            replace hs2 := Lib.hid hs2
            go_wp2_with fail
            go_roundw
            case rel => exact ⟨j + 1, N + xq1.size + r + r2, by go_num, by go_num, by rw [HN.out]; omega, by push_cast; omega, fun h => by rw [ES.out]; have := hI.out hle; have := HR2.out (by push_cast at h; omega); have := hs2.out (by push_cast at h; omega); push_cast at h; omega, X2.out⟩
            case measure => simp [intOf]; omega
          · have HXX := Lib.hid (HX.out.trans hx)
            clear k0 k1 k2 k3 k4 k5 k6 k7 k8 k9 k10 k11 k12 hx
            go_wp2_with fail
            go_roundw
            case rel => exact ⟨j + 1, N + xq1.size + r, by go_num, by go_num, by rw [HN.out]; omega, by push_cast; omega, fun h => absurd h (by push_cast; omega), HXX.out⟩
            case measure => simp [intOf]; omega
        · have X := HX.out
          go_wp2_with fail
          go_ret
          exact ⟨N, rfl, hN, fun h => by omega, X⟩
      · obtain rfl : j = n := by omega
        have X := HX.out
        have hR : ((N : Int) ≤ z → wtSs l ≤ N) := fun h => by have := hI.out h; rw [HN.out] at this; rw [show l.take j = l from List.take_of_length_le (by rw [HN.out]; exact Nat.le_refl _)] at this; omega
        replace hR := Lib.hid hR
        by_cases hle : (N : Int) ≤ z
        · go_wp2_with fail
          go_ret
          exact ⟨N, rfl, hN, hR.out, X⟩
        · go_wp2_with fail
          go_ret
          exact ⟨N, rfl, hN, hR.out, X⟩
theorem weights_c (l : List S) (n : Nat) (hn : l.length = n) (a : Option Addr) (c : Nat) (z : Int) (h0 : 0 ≤ z) (h1 : z ≤ 600) (w : World) (hl : InB w a l) : Calls Tryd.prog 22 #[.slice a n c, .int .i64 z] w fun r w' => ∃ N : Nat, r = .returned (.int .i64 N) ∧ (N : Int) ≤ 2 * z + 281474976710657 ∧ ((N : Int) ≤ z → wtSs l ≤ N) ∧ Ext w w' := weights_n _ l (Nat.lt_succ_self _) n hn a c z h0 h1 w hl
end Go.Proofs.YtcheigpejbmaoaaDoor
