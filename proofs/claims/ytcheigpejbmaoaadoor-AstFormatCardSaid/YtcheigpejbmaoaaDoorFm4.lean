/- Functions are written. Printed by gen/fm2.py. -/
import Derived.Test.YtcheigpejbmaoaaDoorFm3
namespace Go.Proofs.YtcheigpejbmaoaaDoor
open Go.RowKit
def PsRel (A : List P) (b : Nat) (v : Value) (l : List UInt8) (w : World) (s : Value) (wr : World) : Prop := ∃ (j : Nat) (v' : Value), s = .int .i64 j ∧ j ≤ A.length ∧ Aft b v w (l ++ comF true ((A.map txP).take j)) v' wr
/-- The contract of writeFunc. -/
def WFn (x : F) : Prop := ∀ (w0 : World) (b : Nat) (l : List UInt8) (v : Value) (w : World), InF w0 x → Tab w0 → Ext w0 w → BX b l v w → Past w0.heap.size b v → l.length + (txF x).length ≤ 140737488355328 →
  Calls Tryd.prog 47 #[.pointer (some ⟨b, 0, none⟩), x.v] w fun r w' => r = .returned (.tuple #[]) ∧ ∃ v', Aft b v w (l ++ txF x) v' w'
set_option maxRecDepth 100000 in
set_option maxHeartbeats 16000000 in
theorem writeFunc_c (x : F) (hok : okF x = true) : WFn x := by
  intro w0 b l v w he ht hx hb hp hlen
  have HX := Lib.hid hx
  have HBX := Lib.hid hb
  have HP := Lib.hid hp
  have HTB := Lib.hid ht
  have HLEN := Lib.hid hlen
  unfold okF at hok
  simp only [Bool.and_eq_true] at hok
  obtain ⟨okn, okps, okt, okb, oke⟩ := hok
  have HOK := Lib.hid (fun (i : Nat) (u : P) (h : x.params[i]? = some u) => all_at okps h)
  have hnm := nameOk_le okn
  have HPS := he.ps
  have hcap : x.params.length ≤ 9223372036854775807 := Nat.le_trans he.ps.2 (by decide)
  have HWE := fun l v w h1 h2 h3 h4 => writeE1 (b := b) oke he.e ht l v w h1 h2 h3 h4
  have HWB := fun l v w h1 h2 h3 h4 => writeBody_ok x.body okb w0 b l v w x.body.length rfl x.ba x.bc he.body ht h1 h2 h3 h4
  have TR := fun w' h => typeText_c x.t.k x.t.b x.t.n w' h okt
  obtain ⟨Z, hZ⟩ : ∃ q : ByteArray, q = ⟨(tyTx x.t.k x.t.b x.t.n).toArray⟩ := ⟨_, rfl⟩
  have hZs : Z.size ≤ 47 := by rw [hZ, mkSize]; exact tyTx_le okt
  have HZ : tyTx x.t.k x.t.b x.t.n = Z.data.toList := by rw [hZ]
  simp only [← hZ] at TR
  obtain ⟨K, hK⟩ : ∃ q : ByteArray, q = ⟨#[41, 58, 32]⟩ ++ Z ++ ⟨#[32, 123, 32]⟩ := ⟨_, rfl⟩
  have uk : ¬ 9223372036854775807 < 3 + Z.size := by omega
  have uk2 : ¬ 9223372036854775807 < 3 + Z.size + 3 := by omega
  obtain ⟨N, hN⟩ : ∃ q : ByteArray, q = ⟨#[102, 110, 32]⟩ ++ x.name ++ ⟨#[40]⟩ := ⟨_, rfl⟩
  have un : ¬ 9223372036854775807 < 3 + x.name.size := by omega
  have un2 : ¬ 9223372036854775807 < 3 + x.name.size + 1 := by omega
  have HT : txF x = N.data.toList ++ (comF true (x.params.map txP) ++ (K.data.toList ++ (txSs x.body ++ ((⟨#[114, 101, 116, 117, 114, 110, 32]⟩ : ByteArray).data.toList ++ (txB x.e ++ (⟨#[59, 32, 125]⟩ : ByteArray).data.toList))))) := by
    unfold txF; rw [hN, hK, HZ]; simp only [baApp]; simp
  obtain ⟨T, hT⟩ : ∃ q, q = txF x := ⟨_, rfl⟩
  obtain ⟨te, hte⟩ : ∃ q, q = txB x.e := ⟨_, rfl⟩
  obtain ⟨tb, htb⟩ : ∃ q, q = txSs x.body := ⟨_, rfl⟩
  obtain ⟨C, hC⟩ : ∃ q, q = comF true (x.params.map txP) := ⟨_, rfl⟩
  rw [← hT] at HT HLEN ⊢
  rw [← hte, ← htb, ← hC] at HT
  simp only [← hte] at HWE
  simp only [← htb] at HWB
  have HC := Lib.hid hC
  unfold E.v at HWE
  unfold F.v
  clear hT hte htb hC hx hb hp ht he hlen okn okps okt okb oke hZ hZs HZ hnm
  obtain ⟨xq0, hxq0⟩ : ∃ q, q = x.name := ⟨_, rfl⟩
  obtain ⟨xq1, hxq1⟩ : ∃ q, q = x.pa := ⟨_, rfl⟩
  obtain ⟨xq2, hxq2⟩ : ∃ q, q = x.params.length := ⟨_, rfl⟩
  obtain ⟨xq3, hxq3⟩ : ∃ q, q = x.pc := ⟨_, rfl⟩
  obtain ⟨xq4, hxq4⟩ : ∃ q, q = x.t.k := ⟨_, rfl⟩
  obtain ⟨xq5, hxq5⟩ : ∃ q, q = x.t.b := ⟨_, rfl⟩
  obtain ⟨xq6, hxq6⟩ : ∃ q, q = x.t.n := ⟨_, rfl⟩
  obtain ⟨xq7, hxq7⟩ : ∃ q, q = x.ba := ⟨_, rfl⟩
  obtain ⟨xq8, hxq8⟩ : ∃ q, q = x.body.length := ⟨_, rfl⟩
  obtain ⟨xq9, hxq9⟩ : ∃ q, q = x.bc := ⟨_, rfl⟩
  obtain ⟨xq10, hxq10⟩ : ∃ q, q = x.e.op := ⟨_, rfl⟩
  obtain ⟨xq11, hxq11⟩ : ∃ q, q = x.e.val := ⟨_, rfl⟩
  obtain ⟨xq12, hxq12⟩ : ∃ q, q = x.e.name := ⟨_, rfl⟩
  obtain ⟨xq13, hxq13⟩ : ∃ q, q = x.e.a := ⟨_, rfl⟩
  obtain ⟨xq14, hxq14⟩ : ∃ q, q = x.e.args.length := ⟨_, rfl⟩
  obtain ⟨xq15, hxq15⟩ : ∃ q, q = x.e.cap := ⟨_, rfl⟩
  simp only [← hxq0, ← hxq1, ← hxq2, ← hxq3, ← hxq4, ← hxq5, ← hxq6, ← hxq7, ← hxq8, ← hxq9, ← hxq10, ← hxq11, ← hxq12, ← hxq13, ← hxq14, ← hxq15] at HWE HWB TR HPS hN un un2 hcap ⊢
  have HN := Lib.hid hxq2
  clear hxq0 hxq1 hxq2 hxq3 hxq4 hxq5 hxq6 hxq7 hxq8 hxq9 hxq10 hxq11 hxq12 hxq13 hxq14 hxq15
  replace HT := Lib.hid HT
  replace HWE := Lib.hid HWE
  replace HWB := Lib.hid HWB
  replace TR := Lib.hid TR
  replace HPS := Lib.hid HPS
  have HNN := Lib.hid hN
  have HKK := Lib.hid hK
  clear hN hK
  go_enter Tryd.func47, Tryd.ntmps47
  go_wp2_with fail
  obtain ⟨wb, hwb⟩ : ∃ q, q = w.alloc (.cells #[.string xq0, .slice xq1 xq2 xq3, .int .i64 xq4, .int .i64 xq5, .int .i64 xq6, .slice xq7 xq8 xq9, .int .i64 xq10, .int .u64 (xq11 : Int), .string xq12, .slice xq13 xq14 xq15] 50) := ⟨_, rfl⟩
  have c0 : wb.cell? ⟨w.heap.size, 0, none⟩ = some (.string xq0) := by rw [hwb]; simp
  have C0 := Lib.hid c0
  have c1 : wb.cell? ⟨w.heap.size, 1, none⟩ = some (.slice xq1 xq2 xq3) := by rw [hwb]; simp
  have C1 := Lib.hid c1
  have c2 : wb.cell? ⟨w.heap.size, 2, none⟩ = some (.int .i64 xq4) := by rw [hwb]; simp
  have C2 := Lib.hid c2
  have c3 : wb.cell? ⟨w.heap.size, 3, none⟩ = some (.int .i64 xq5) := by rw [hwb]; simp
  have C3 := Lib.hid c3
  have c4 : wb.cell? ⟨w.heap.size, 4, none⟩ = some (.int .i64 xq6) := by rw [hwb]; simp
  have C4 := Lib.hid c4
  have c5 : wb.cell? ⟨w.heap.size, 5, none⟩ = some (.slice xq7 xq8 xq9) := by rw [hwb]; simp
  have C5 := Lib.hid c5
  have c6 : wb.cell? ⟨w.heap.size, 6, none⟩ = some (.int .i64 xq10) := by rw [hwb]; simp
  have C6 := Lib.hid c6
  have c7 : wb.cell? ⟨w.heap.size, 7, none⟩ = some (.int .u64 (xq11 : Int)) := by rw [hwb]; simp
  have C7 := Lib.hid c7
  have c8 : wb.cell? ⟨w.heap.size, 8, none⟩ = some (.string xq12) := by rw [hwb]; simp
  have C8 := Lib.hid c8
  have c9 : wb.cell? ⟨w.heap.size, 9, none⟩ = some (.slice xq13 xq14 xq15) := by rw [hwb]; simp
  have C9 := Lib.hid c9
  have HXB : Hid (Ext w wb) := Lib.hid (by rw [hwb]; exact (Ext.refl _).alloc _)
  have HX0 : Hid (Ext w0 wb) := Lib.hid (HX.out.trans HXB.out)
  have HA : Hid (Aft b v wb l v wb) := Lib.hid (Aft.ofExt (HBX.out.ext HXB.out) (Ext.refl _))
  have NB : Hid (w.heap.size ≠ b) := Lib.hid (by have := HBX.out.lt; omega)
  have NV : Hid (v.ownBlock ≠ some w.heap.size) := Lib.hid (fun q => by have := HBX.out.own q; omega)
  rw [← hwb]
  clear hwb
  rw [← HNN.out]
  refine (WriteString_c b _ _ N _ HA.out.bx (by have q := HLEN.out; rw [HT.out] at q; rw [lenS]; (try simp only [List.length_append] at q ⊢); omega)).mono ?_; rintro e1 wn ⟨rfl, vn, ha⟩
  have HA := Lib.hid (HA.out.trans ha)
  clear ha
  clear c0 c1 c2 c3 c4 c5 c6 c7 c8 c9 un un2
  have c1 := HA.out.cell C1.out NB.out NV.out
  go_wp2_with fail
  clear c1
  have HAq := Lib.hid HA.out
  obtain ⟨lq, hlq⟩ : ∃ q, q = l ++ N.data.toList := ⟨_, rfl⟩
  have HLQ0 : Hid (lq.length + C.length ≤ 140737488355328) := Lib.hid (by have q := HLEN.out; rw [HT.out] at q; rw [hlq]; simp only [List.length_append] at q ⊢; omega)
  rw [← hlq] at HAq
  have HLq := Lib.hid hlq
  obtain ⟨wq, hwq⟩ : ∃ q, q = wn := ⟨_, rfl⟩
  obtain ⟨vq, hvq⟩ : ∃ q, q = vn := ⟨_, rfl⟩
  rw [← hwq, ← hvq] at HAq
  have HWQ := Lib.hid hwq
  have HVQ := Lib.hid hvq
  have HXq := Lib.hid (HAq.out.ext HX0.out HP.out)
  have HPq := Lib.hid (HAq.out.past HX0.out.size HP.out)
  rw [← hwq]
  clear hlq hwq hvq HA
  go_loopw [15] (PsRel x.params b vq lq wq) (fun s _ => xq2 - (intOf s).toNat)
  case atStart => exact ⟨0, vq, rfl, Nat.zero_le _, by simpa [comF] using Aft.ofExt HAq.out.bx (Ext.refl _)⟩
  case round =>
    obtain ⟨j, v1, rfl, hj, haf⟩ := hrel
    rw [← HN.out] at hj
    have HA := Lib.hid haf
    clear haf
    by_cases hlt : j < xq2
    · obtain ⟨u, hxj⟩ := getE (l := x.params) (i := j) (by rw [← HN.out]; exact hlt)
      have HE1 := Lib.hid (HA.out.ext HXq.out HPq.out)
      obtain ⟨⟨ab, o, rfl, k0, k1, k2, k3⟩, hin⟩ := (HPS.out.to HE1.out).at hxj
      have okp := HOK.out j u hxj
      unfold okP at okp
      rw [Bool.and_eq_true] at okp
      have ES : Hid (comF true ((x.params.map txP).take (j + 1)) = comF true ((x.params.map txP).take j) ++ ((if j = 0 then [] else (⟨#[44, 32]⟩ : ByteArray).data.toList) ++ txP u)) := Lib.hid (by
        have hm : (x.params.map txP)[j]? = some (txP u) := by rw [List.getElem?_map, hxj]; rfl
        rw [take_snoc hm, comF_snoc]
        congr 2
        have hjl : ((x.params.map txP).take j).isEmpty = decide (j = 0) := by
          have q2 : ((x.params.map txP).take j).length = j := by rw [List.length_take, List.length_map]; have := HN.out; omega
          cases hq : (x.params.map txP).take j with
          | nil =>
            rw [hq] at q2
            rw [decide_eq_true (show j = 0 from q2.symm)]; rfl
          | cons y ys =>
            rw [hq] at q2
            rw [decide_eq_false (show ¬ j = 0 by simp at q2; omega)]; rfl
        rw [hjl]; by_cases h : j = 0 <;> simp [h])
      have HLJ := comF_le true (x.params.map txP) (j + 1)
      rw [← HC.out] at HLJ
      have TC := fun w' h => typeText_c u.t.k u.t.b u.t.n w' h okp.2
      obtain ⟨Y, hY⟩ : ∃ q : ByteArray, q = ⟨(tyTx u.t.k u.t.b u.t.n).toArray⟩ := ⟨_, rfl⟩
      have hYs : Y.size ≤ 47 := by rw [hY, mkSize]; exact tyTx_le okp.2
      have HY : Hid (tyTx u.t.k u.t.b u.t.n = Y.data.toList) := Lib.hid (by rw [hY])
      simp only [← hY] at TC
      obtain ⟨M, hM⟩ : ∃ q : ByteArray, q = u.name ++ ⟨#[58, 32]⟩ ++ Y := ⟨_, rfl⟩
      have hnm := nameOk_le okp.1
      have um : ¬ 9223372036854775807 < u.name.size + 2 := by omega
      have um2 : ¬ 9223372036854775807 < u.name.size + 2 + Y.size := by omega
      have HM2 : Hid (txP u = M.data.toList) := Lib.hid (by unfold txP; rw [HY.out, hM, baApp, baApp]; simp)
      obtain ⟨P, hP⟩ : ∃ q, q = comF true ((x.params.map txP).take j) := ⟨_, rfl⟩
      obtain ⟨Q, hQ⟩ : ∃ q, q = txP u := ⟨_, rfl⟩
      rw [← hP] at ES HA
      rw [← hQ] at ES HM2
      rw [ES.out] at HLJ
      obtain ⟨S, hS⟩ : ∃ q : List UInt8, q = if j = 0 then [] else (⟨#[44, 32]⟩ : ByteArray).data.toList := ⟨_, rfl⟩
      rw [← hS] at ES HLJ
      have HSS := Lib.hid hS
      have HLQ : Hid (lq.length + (P.length + (S.length + Q.length)) ≤ 140737488355328) := Lib.hid (by have := HLQ0.out; simp only [List.length_append] at HLJ; omega)
      clear hP hQ HLJ hxj hS hin okp hY hYs hnm
      obtain ⟨uq0, huq0⟩ : ∃ q, q = u.name := ⟨_, rfl⟩
      obtain ⟨uq1, huq1⟩ : ∃ q, q = u.t.k := ⟨_, rfl⟩
      obtain ⟨uq2, huq2⟩ : ∃ q, q = u.t.b := ⟨_, rfl⟩
      obtain ⟨uq3, huq3⟩ : ∃ q, q = u.t.n := ⟨_, rfl⟩
      simp only [← huq0, ← huq1, ← huq2, ← huq3] at k0 k1 k2 k3 TC hM um um2
      clear huq0 huq1 huq2 huq3
      replace TC := Lib.hid TC
      have HMM := Lib.hid hM
      clear hM
      obtain ⟨wl, hwl⟩ : ∃ q, q = wr.alloc (.cells #[.string uq0, .int .i64 uq1, .int .i64 uq2, .int .i64 uq3] 53) := ⟨_, rfl⟩
      have XL : Hid (Ext wr wl) := Lib.hid (by rw [hwl]; exact (Ext.refl _).alloc _)
      have d0 : wl.cell? ⟨wr.heap.size, 0, none⟩ = some (.string uq0) := by rw [hwl]; simp
      have d1 : wl.cell? ⟨wr.heap.size, 1, none⟩ = some (.int .i64 uq1) := by rw [hwl]; simp
      have d2 : wl.cell? ⟨wr.heap.size, 2, none⟩ = some (.int .i64 uq2) := by rw [hwl]; simp
      have d3 : wl.cell? ⟨wr.heap.size, 3, none⟩ = some (.int .i64 uq3) := by rw [hwl]; simp
      have DD := Lib.hid (And.intro d0 (And.intro d1 (And.intro d2 d3)))
      have HWL := Lib.hid hwl
      have NB2 : Hid (wr.heap.size ≠ b) := Lib.hid (by have := HA.out.bx.lt; omega)
      have NV2 : Hid (v1.ownBlock ≠ some wr.heap.size) := Lib.hid (fun q => by have := HA.out.bx.own q; omega)
      clear d0 d1 d2 d3 hwl
      by_cases hj0 : j = 0
      · have tj : ¬ 0 < j := by omega
        have HJ0 := Lib.hid hj0
        clear hj0
        go_wp2_with fail
        rw [← HWL.out]
        have HA2 := Lib.hid (HA.out.grow XL.out)
        have d0 := DD.out.1
        have d1 := DD.out.2.1
        have d2 := DD.out.2.2.1
        have d3 := DD.out.2.2.2
        refine region_factsL [[], [], [(1, 25)], [(2, 26)], [], [(4, 28)], [(5, 29)], [(3, 27), (6, 30)]] [some 24, some 25, some 26, some 27, some 28, some 29, some 30, some 31] [true, false, false, false, false, true, false, false, false, false, false, false, false, false, false, false, false, false, false, false, false, false, false, false, false, false, false, false, false, false, false, false, false, false, false, false, false, false, false, false, false, false, false, false, false, false, false, false, false, false, false, false, false] (by kernel_rfl) (by kernel_rfl) (by kernel_rfl) ?_
        dsimp only [maskL]
        with_reducible apply FromM.eq
        · intro w' hx; (try dsimp only [List.nil_append, List.cons_append, DepsL, DepsL1, setO, setN, favs, opsOf]); go_wp2; exact OpPostE.some _ rfl rfl (Ext.refl _) rfl
        with_reducible apply FromM.eq
        · intro w' hx; (try dsimp only [List.nil_append, List.cons_append, DepsL, DepsL1, setO, setN, favs, opsOf]); go_wp2; exact OpPostE.some _ rfl rfl (Ext.refl _) rfl
        with_reducible apply FromM.eq
        · intro w' hx; have d0x := hx.cell d0; have d1x := hx.cell d1; have d2x := hx.cell d2; have d3x := hx.cell d3; (try dsimp only [List.nil_append, List.cons_append, DepsL, DepsL1, setO, setN, favs, opsOf]); go_wp2; exact OpPostE.some _ rfl rfl (Ext.refl _) rfl
        with_reducible apply FromM.eq
        · intro w' hx; (try dsimp only [List.nil_append, List.cons_append, DepsL, DepsL1, setO, setN, favs, opsOf]); go_wp2; exact OpPostE.some _ rfl rfl (Ext.refl _) rfl
        with_reducible apply FromM.eq
        · intro w' hx; (try dsimp only [List.nil_append, List.cons_append, DepsL, DepsL1, setO, setN, favs, opsOf]); go_wp2; exact OpPostE.some _ rfl rfl (Ext.refl _) rfl
        with_reducible apply FromM.eq
        · intro w' hx; have d0x := hx.cell d0; have d1x := hx.cell d1; have d2x := hx.cell d2; have d3x := hx.cell d3; (try dsimp only [List.nil_append, List.cons_append, DepsL, DepsL1, setO, setN, favs, opsOf]); go_wp2; exact OpPostE.some _ rfl rfl (Ext.refl _) rfl
        with_reducible apply FromM.eq
        · intro w' hx; (try dsimp only [List.nil_append, List.cons_append, DepsL, DepsL1, setO, setN, favs, opsOf]); refine op_call 45 [.tmp 29] _ _ _ rfl rfl rfl rfl rfl rfl (fun _ _ => Tryd.call45 _ _) (TC.out _ (HTB.out.ext ((HA2.out.ext HXq.out HPq.out).trans hx))) (fun e w2 h_ => ?_); obtain ⟨rfl, hb2⟩ := h_; exact ⟨_, rfl, hb2, rfl⟩
        with_reducible apply FromM.eq
        · intro w' hx; (try dsimp only [List.nil_append, List.cons_append, DepsL, DepsL1, setO, setN, favs, opsOf]); go_wp2; exact OpPostE.some _ rfl rfl (Ext.refl _) rfl
        with_reducible refine FromM.fin ?_
        intro w' hx
        (try dsimp only [List.nil_append, List.cons_append, EndL, DepsL1, setO, setN])
        have HA4 := Lib.hid (HA2.out.grow hx)
        clear hx d0 d1 d2 d3 um um2 k0 k1 k2 k3
        go_wp2_with fail
        rw [← HMM.out]
        refine (WriteString_c b _ _ M _ HA4.out.bx (by have q := HLQ.out; rw [HM2.out] at q; rw [lenS]; simp only [List.length_append, List.length_cons, List.length_nil] at q ⊢; omega)).mono ?_; rintro e3 wn3 ⟨rfl, vn3, ha⟩
        have HA5 := Lib.hid (HA4.out.trans ha)
        clear ha
        go_wp2_with fail
        go_roundw
        case rel =>
          refine ⟨j + 1, vn3, by go_num, by rw [← HN.out]; omega, ?_⟩
          rw [ES.out, HSS.out, if_pos HJ0.out, HM2.out]
          have q := HA5.out
          simp only [List.append_assoc, List.nil_append] at q ⊢
          exact q
        case measure => simp [intOf]; omega
      · have tj : 0 < j := by omega
        have HJ0 := Lib.hid hj0
        clear hj0
        go_wp2_with fail
        rw [← HWL.out]
        have HA2 := Lib.hid (HA.out.grow XL.out)
        refine (WriteString_c b _ _ ⟨#[44, 32]⟩ _ HA2.out.bx (by have q := HLQ.out; rw [HSS.out, if_neg HJ0.out] at q; rw [lenS]; simp only [List.length_append] at q ⊢; omega)).mono ?_; rintro e1 wn ⟨rfl, vn, ha⟩
        have d0 := (ha).cell DD.out.1 NB2.out NV2.out
        have d1 := (ha).cell DD.out.2.1 NB2.out NV2.out
        have d2 := (ha).cell DD.out.2.2.1 NB2.out NV2.out
        have d3 := (ha).cell DD.out.2.2.2 NB2.out NV2.out
        have HA3 := Lib.hid (HA2.out.trans ha)
        clear ha
        go_wp2_with fail
        refine region_factsL [[], [], [(1, 25)], [(2, 26)], [], [(4, 28)], [(5, 29)], [(3, 27), (6, 30)]] [some 24, some 25, some 26, some 27, some 28, some 29, some 30, some 31] [true, false, false, false, false, true, false, false, false, false, false, false, false, false, false, false, false, false, false, false, false, false, false, false, false, false, false, false, false, false, false, false, false, false, false, false, false, false, false, false, false, false, false, false, false, false, false, false, false, false, false, false, false] (by kernel_rfl) (by kernel_rfl) (by kernel_rfl) ?_
        dsimp only [maskL]
        with_reducible apply FromM.eq
        · intro w' hx; (try dsimp only [List.nil_append, List.cons_append, DepsL, DepsL1, setO, setN, favs, opsOf]); go_wp2; exact OpPostE.some _ rfl rfl (Ext.refl _) rfl
        with_reducible apply FromM.eq
        · intro w' hx; (try dsimp only [List.nil_append, List.cons_append, DepsL, DepsL1, setO, setN, favs, opsOf]); go_wp2; exact OpPostE.some _ rfl rfl (Ext.refl _) rfl
        with_reducible apply FromM.eq
        · intro w' hx; have d0x := hx.cell d0; have d1x := hx.cell d1; have d2x := hx.cell d2; have d3x := hx.cell d3; (try dsimp only [List.nil_append, List.cons_append, DepsL, DepsL1, setO, setN, favs, opsOf]); go_wp2; exact OpPostE.some _ rfl rfl (Ext.refl _) rfl
        with_reducible apply FromM.eq
        · intro w' hx; (try dsimp only [List.nil_append, List.cons_append, DepsL, DepsL1, setO, setN, favs, opsOf]); go_wp2; exact OpPostE.some _ rfl rfl (Ext.refl _) rfl
        with_reducible apply FromM.eq
        · intro w' hx; (try dsimp only [List.nil_append, List.cons_append, DepsL, DepsL1, setO, setN, favs, opsOf]); go_wp2; exact OpPostE.some _ rfl rfl (Ext.refl _) rfl
        with_reducible apply FromM.eq
        · intro w' hx; have d0x := hx.cell d0; have d1x := hx.cell d1; have d2x := hx.cell d2; have d3x := hx.cell d3; (try dsimp only [List.nil_append, List.cons_append, DepsL, DepsL1, setO, setN, favs, opsOf]); go_wp2; exact OpPostE.some _ rfl rfl (Ext.refl _) rfl
        with_reducible apply FromM.eq
        · intro w' hx; (try dsimp only [List.nil_append, List.cons_append, DepsL, DepsL1, setO, setN, favs, opsOf]); refine op_call 45 [.tmp 29] _ _ _ rfl rfl rfl rfl rfl rfl (fun _ _ => Tryd.call45 _ _) (TC.out _ (HTB.out.ext ((HA3.out.ext HXq.out HPq.out).trans hx))) (fun e w2 h_ => ?_); obtain ⟨rfl, hb2⟩ := h_; exact ⟨_, rfl, hb2, rfl⟩
        with_reducible apply FromM.eq
        · intro w' hx; (try dsimp only [List.nil_append, List.cons_append, DepsL, DepsL1, setO, setN, favs, opsOf]); go_wp2; exact OpPostE.some _ rfl rfl (Ext.refl _) rfl
        with_reducible refine FromM.fin ?_
        intro w' hx
        (try dsimp only [List.nil_append, List.cons_append, EndL, DepsL1, setO, setN])
        have HA4 := Lib.hid (HA3.out.grow hx)
        clear hx d0 d1 d2 d3 um um2 k0 k1 k2 k3
        go_wp2_with fail
        rw [← HMM.out]
        refine (WriteString_c b _ _ M _ HA4.out.bx (by have q := HLQ.out; rw [HM2.out] at q; rw [HSS.out, if_neg HJ0.out] at q; rw [lenS]; simp only [List.length_append, List.length_cons, List.length_nil] at q ⊢; omega)).mono ?_; rintro e3 wn3 ⟨rfl, vn3, ha⟩
        have HA5 := Lib.hid (HA4.out.trans ha)
        clear ha
        go_wp2_with fail
        go_roundw
        case rel =>
          refine ⟨j + 1, vn3, by go_num, by rw [← HN.out]; omega, ?_⟩
          rw [ES.out, HSS.out, if_neg HJ0.out, HM2.out]
          have q := HA5.out
          simp only [List.append_assoc, List.nil_append] at q ⊢
          exact q
        case measure => simp [intOf]; omega
    · obtain rfl : j = xq2 := by omega
      have ET : Hid ((x.params.map txP).take j = x.params.map txP) := Lib.hid (List.take_of_length_le (by rw [List.length_map, HN.out]; exact Nat.le_refl _))
      rw [ET.out, ← HC.out] at HA
      have HA := Lib.hid (HAq.out.trans HA.out)
      rw [HLq.out] at HA
      clear HAq HLQ0 HXq HPq
      have c2 := HA.out.cell C2.out NB.out NV.out
      have c3 := HA.out.cell C3.out NB.out NV.out
      have c4 := HA.out.cell C4.out NB.out NV.out
      have c5 := HA.out.cell C5.out NB.out NV.out
      have c6 := HA.out.cell C6.out NB.out NV.out
      have c7 := HA.out.cell C7.out NB.out NV.out
      have c8 := HA.out.cell C8.out NB.out NV.out
      have c9 := HA.out.cell C9.out NB.out NV.out
      go_wp2_with fail
      refine (TR.out _ (HTB.out.ext (HA.out.ext HX0.out HP.out))).mono ?_; rintro e1 wn ⟨rfl, x2⟩
      have HA := Lib.hid (HA.out.grow x2)
      clear x2 c2 c3 c4 c5 c6 c7 c8 c9
      go_wp2_with fail
      rw [← HKK.out]
      refine (WriteString_c b _ _ K _ HA.out.bx (by have q := HLEN.out; rw [HT.out] at q; rw [lenS]; (try simp only [List.length_append] at q ⊢); omega)).mono ?_; rintro e1 wn ⟨rfl, vn, ha⟩
      have HA := Lib.hid (HA.out.trans ha)
      clear ha
      clear uk uk2
      have c5 := HA.out.cell C5.out NB.out NV.out
      have c6 := HA.out.cell C6.out NB.out NV.out
      have c7 := HA.out.cell C7.out NB.out NV.out
      have c8 := HA.out.cell C8.out NB.out NV.out
      have c9 := HA.out.cell C9.out NB.out NV.out
      go_wp2_with fail
      refine (HWB.out _ _ _ (HA.out.ext HX0.out HP.out) HA.out.bx (HA.out.past HX0.out.size HP.out) (by have q := HLEN.out; rw [HT.out] at q; (try simp only [List.length_append] at q ⊢); omega)).mono ?_; rintro e1 wn ⟨rfl, vn, ha⟩
      have HA := Lib.hid (HA.out.trans ha)
      clear ha
      clear c5 c6 c7 c8 c9
      go_wp2_with fail
      refine (WriteString_c b _ _ ⟨#[114, 101, 116, 117, 114, 110, 32]⟩ _ HA.out.bx (by have q := HLEN.out; rw [HT.out] at q; rw [lenS]; (try simp only [List.length_append] at q ⊢); omega)).mono ?_; rintro e1 wn ⟨rfl, vn, ha⟩
      have HA := Lib.hid (HA.out.trans ha)
      clear ha
      have c6 := HA.out.cell C6.out NB.out NV.out
      have c7 := HA.out.cell C7.out NB.out NV.out
      have c8 := HA.out.cell C8.out NB.out NV.out
      have c9 := HA.out.cell C9.out NB.out NV.out
      go_wp2_with fail
      refine (HWE.out _ _ _ (HA.out.ext HX0.out HP.out) HA.out.bx (HA.out.past HX0.out.size HP.out) (by have q := HLEN.out; rw [HT.out] at q; (try simp only [List.length_append] at q ⊢); omega)).mono ?_; rintro e1 wn ⟨rfl, vn, ha⟩
      have HA := Lib.hid (HA.out.trans ha)
      clear ha
      clear c6 c7 c8 c9
      go_wp2_with fail
      refine (WriteString_c b _ _ ⟨#[59, 32, 125]⟩ _ HA.out.bx (by have q := HLEN.out; rw [HT.out] at q; rw [lenS]; (try simp only [List.length_append] at q ⊢); omega)).mono ?_; rintro e1 wn ⟨rfl, vn, ha⟩
      have HA := Lib.hid (HA.out.trans ha)
      clear ha
      go_wp2_with fail
      first | go_end0 | ((try simp only [Exit.inBlock, Exit.then]); refine bodyPost_ret (results_none rfl _ _ _) rfl ?_)
      refine ⟨rfl, vn, Aft.start HBX.out HXB.out ?_⟩
      have q := HA.out
      (try simp only [List.append_assoc] at q)
      rw [HT.out]
      exact q
end Go.Proofs.YtcheigpejbmaoaaDoor
