/- The text of a program: the document. Printed by gen/rt2.py. -/
import Derived.Test.YtcheigpejbmaoaaDoorRt4
namespace Go.Proofs.YtcheigpejbmaoaaDoor
open Go.RowKit
def CpRel (H : ByteArray) (A : List P) (w : World) (s3 s6 : Value) (wr : World) : Prop := ∃ i : Nat, s6 = .int .i64 i ∧ i ≤ A.length ∧ s3 = .string (H ++ ⟨(comF true ((A.map txP).take i)).toArray⟩) ∧ Ext w wr
set_option maxRecDepth 100000 in
set_option maxHeartbeats 4000000 in
theorem Program_c (x : G) (hok : okG x = true) (hwt : wtG x ≤ 600) (w : World) (ht : Tab w) (hx : InG w x) : Calls Tryd.prog 18 #[x.v] w fun r w' => r = .returned (.string ⟨(txG x).toArray⟩) ∧ Ext w w' := by
  have hlen := len_txG hok hx
  have eT : txG x = linesL 10 txF x.funcs ++ (linesL 10 txD x.decls ++ linesL 10 txS x.body) := rfl
  have eL := congrArg List.length eT
  simp only [List.length_append] at eL
  have HLF : Hid ((linesL 10 txF x.funcs).length ≤ 100000) := Lib.hid (by omega)
  have HLD : Hid ((linesL 10 txD x.decls).length ≤ 100000) := Lib.hid (by omega)
  have HLB : Hid ((linesL 10 txS x.body).length ≤ 100000) := Lib.hid (by omega)
  unfold okG at hok
  simp only [Bool.and_eq_true] at hok
  have HOF := Lib.hid hok.1
  have HOD := Lib.hid hok.2.1
  have HOB := Lib.hid hok.2.2
  have hwt2 : wtSs x.body + x.decls.length + x.funcs.length + sumL wtF x.funcs + sumL nmD x.decls ≤ 600 := hwt
  have HWF : Hid (∀ (f : F) (i : Nat), x.funcs[i]? = some f → f.params.length + wtSs f.body + wtE f.e + sumL nmP f.params ≤ 600) := Lib.hid (fun f i hf => by
    have := sumL_get wtF hf
    have e : wtF f = f.name.size + f.params.length + wtSs f.body + wtE f.e + sumL nmP f.params := rfl
    omega)
  have HWB : Hid (wtSs x.body ≤ 600) := Lib.hid (by omega)
  have HTB := Lib.hid ht
  have HF := hx.fs
  have HD := hx.ds
  have HL := hx.body
  have hcap : x.funcs.length ≤ 9223372036854775807 := Nat.le_trans hx.fs.2 (by decide)
  have hcap2 : x.decls.length ≤ 9223372036854775807 := Nat.le_trans hx.ds.2 (by decide)
  have hcap3 : x.body.length ≤ 9223372036854775807 := Nat.le_trans hx.body.2 (by decide)
  obtain ⟨RR, hRR⟩ : ∃ q : ByteArray, q = ⟨(txG x).toArray⟩ := ⟨_, rfl⟩
  rw [← hRR]
  have HRR := Lib.hid hRR
  unfold G.v
  clear hRR hlen eT eL hok hwt hwt2 ht hx
  obtain ⟨xq0, hxq0⟩ : ∃ q, q = x.fa := ⟨_, rfl⟩
  obtain ⟨xq1, hxq1⟩ : ∃ q, q = x.funcs.length := ⟨_, rfl⟩
  obtain ⟨xq2, hxq2⟩ : ∃ q, q = x.fc := ⟨_, rfl⟩
  obtain ⟨xq3, hxq3⟩ : ∃ q, q = x.da := ⟨_, rfl⟩
  obtain ⟨xq4, hxq4⟩ : ∃ q, q = x.decls.length := ⟨_, rfl⟩
  obtain ⟨xq5, hxq5⟩ : ∃ q, q = x.dc := ⟨_, rfl⟩
  obtain ⟨xq6, hxq6⟩ : ∃ q, q = x.ba := ⟨_, rfl⟩
  obtain ⟨xq7, hxq7⟩ : ∃ q, q = x.body.length := ⟨_, rfl⟩
  obtain ⟨xq8, hxq8⟩ : ∃ q, q = x.bc := ⟨_, rfl⟩
  simp only [← hxq0, ← hxq1, ← hxq2, ← hxq3, ← hxq4, ← hxq5, ← hxq6, ← hxq7, ← hxq8] at HF HD HL hcap hcap2 hcap3 ⊢
  have HNF := Lib.hid hxq1
  have HND := Lib.hid hxq4
  have HNB := Lib.hid hxq7
  clear hxq0 hxq1 hxq2 hxq3 hxq4 hxq5 hxq6 hxq7 hxq8
  replace HF := Lib.hid HF
  replace HD := Lib.hid HD
  replace HL := Lib.hid HL
  go_enter Tryd.func18, Tryd.ntmps18
  go_wp2_with fail
  obtain ⟨W1, hW1⟩ : ∃ q, q = w.alloc (.cells #[.slice xq0 xq1 xq2, .slice xq3 xq4 xq5, .slice xq6 xq7 xq8] 26) := ⟨_, rfl⟩
  have c0 : W1.cell? ⟨w.heap.size, 0, none⟩ = some (.slice xq0 xq1 xq2) := by rw [hW1]; simp
  have c1 : W1.cell? ⟨w.heap.size, 1, none⟩ = some (.slice xq3 xq4 xq5) := by rw [hW1]; simp
  have c2 : W1.cell? ⟨w.heap.size, 2, none⟩ = some (.slice xq6 xq7 xq8) := by rw [hW1]; simp
  have X : Ext w W1 := by rw [hW1]; exact (Ext.refl _).alloc _
  rw [← hW1]
  clear hW1
  have HX1 := Lib.hid X
  clear X
  go_wp2_with fail
  go_loopw [3, 4] (BdRel txF 10 ⟨#[]⟩ x.funcs W1) (fun _ s _ => xq1 - (intOf s).toNat)
  case atStart => exact ⟨0, rfl, Nat.zero_le _, by rw [baNil]; rfl, Ext.refl _⟩
  case round =>
    obtain ⟨j, rfl, hj, rfl, hext⟩ := hrel
    rw [← HNF.out] at hj
    rw [baNil]
    replace c0 := hext.cell c0
    replace c1 := hext.cell c1
    replace c2 := hext.cell c2
    have HX := Lib.hid hext
    clear hext
    by_cases hlt : j < xq1
    · obtain ⟨u, hxj⟩ := getE (l := x.funcs) (i := j) (by rw [← HNF.out]; exact hlt)
      obtain ⟨⟨ab, o, rfl, k0, k1, k2, k3, k4, k5, k6, k7, k8, k9⟩, hin⟩ := (HF.out.to (HX1.out.trans HX.out)).at hxj
      have ES := linesL_take 10 txF hxj
      have HLJ := linesL_le 10 txF x.funcs j
      have hw := HWF.out u j hxj
      have okf := all_at HOF.out hxj
      unfold okF at okf
      simp only [Bool.and_eq_true] at okf
      obtain ⟨okn, okps, okt, okb, oke⟩ := okf
      have hnm := nameOk_le okn
      have TC := fun w' h => RTypeText_c u.t.k u.t.b u.t.n w' h okt
      have BC := fun w' h h2 => Rbody_c u.body okb (by omega) u.body.length rfl u.ba u.bc w' h h2
      have XC := fun w' h => RText_c u.e oke (by omega) w' h
      obtain ⟨Y, hY⟩ : ∃ q : ByteArray, q = ⟨(tyTx u.t.k u.t.b u.t.n).toArray⟩ := ⟨_, rfl⟩
      obtain ⟨tb, htb⟩ : ∃ q : ByteArray, q = ⟨(txSs u.body).toArray⟩ := ⟨_, rfl⟩
      obtain ⟨te, hte⟩ : ∃ q : ByteArray, q = ⟨(txB u.e).toArray⟩ := ⟨_, rfl⟩
      obtain ⟨C, hC⟩ : ∃ q : ByteArray, q = ⟨(comF true (u.params.map txP)).toArray⟩ := ⟨_, rfl⟩
      have HSZ : Hid (Y.size ≤ 47 ∧ tb.size ≤ 40000 ∧ te.size ≤ 40000) := Lib.hid ⟨by rw [hY, mkS]; exact tyTx_le okt, by rw [htb, mkS, txSs_lines]; have := len_body 32 okb hin.body; omega, by rw [hte, mkS]; have := len_txB hin.e; omega⟩
      have hcl : (comF true (u.params.map txP)).length ≤ 40000 := by
        have h1 := comF_len true (u.params.map txP)
        have h2 := slenP u.params okps
        omega
      have HLC := Lib.hid hcl
      have HLC2 : Hid (C.size ≤ 40000) := Lib.hid (by rw [hC, mkS]; exact hcl)
      obtain ⟨P, hP⟩ : ∃ q : ByteArray, q = ⟨(linesL 10 txF (x.funcs.take j)).toArray⟩ := ⟨_, rfl⟩
      have hPs : P.size ≤ 100000 := by rw [hP, mkS]; have := HLF.out; omega
      obtain ⟨Hd, hHd⟩ : ∃ q : ByteArray, q = P ++ ⟨#[102, 110, 32]⟩ ++ u.name ++ ⟨#[40]⟩ := ⟨_, rfl⟩
      have HHS : Hid (Hd.size ≤ 200000) := Lib.hid (by rw [hHd]; simp only [ByteArray.size_append]; show P.size + 3 + u.name.size + 1 ≤ _; omega)
      have EV : Hid (Hd ++ C ++ ⟨#[41, 58, 32]⟩ ++ Y ++ ⟨#[32, 123, 32]⟩ ++ tb ++ ⟨#[114, 101, 116, 117, 114, 110, 32]⟩ ++ te ++ ⟨#[59, 32, 125, 10]⟩ = (⟨#[]⟩ : ByteArray) ++ ⟨(linesL 10 txF (x.funcs.take (j + 1))).toArray⟩) := Lib.hid (by
        refine baEq ?_
        rw [ES, hHd, hP, hY, htb, hte, hC]
        unfold txF
        simp only [baApp, mkL]; simp)
      rw [← hP]
      simp only [← hY] at TC
      simp only [← htb] at BC
      simp only [← hte] at XC
      have HC := Lib.hid hC
      have HOP := Lib.hid okps
      have LP := hin.ps
      have LB := hin.body
      have LE := Lib.hid hin.e
      have hcapp : u.params.length ≤ 9223372036854775807 := Nat.le_trans hin.ps.2 (by decide)
      unfold E.v at XC
      clear hP hxj hin okn okps okt okb oke hY htb hte hC hcl HLJ ES hw
      obtain ⟨uq0, huq0⟩ : ∃ q, q = u.name := ⟨_, rfl⟩
      obtain ⟨uq1, huq1⟩ : ∃ q, q = u.pa := ⟨_, rfl⟩
      obtain ⟨uq2, huq2⟩ : ∃ q, q = u.params.length := ⟨_, rfl⟩
      obtain ⟨uq3, huq3⟩ : ∃ q, q = u.pc := ⟨_, rfl⟩
      obtain ⟨uq4, huq4⟩ : ∃ q, q = u.t.k := ⟨_, rfl⟩
      obtain ⟨uq5, huq5⟩ : ∃ q, q = u.t.b := ⟨_, rfl⟩
      obtain ⟨uq6, huq6⟩ : ∃ q, q = u.t.n := ⟨_, rfl⟩
      obtain ⟨uq7, huq7⟩ : ∃ q, q = u.ba := ⟨_, rfl⟩
      obtain ⟨uq8, huq8⟩ : ∃ q, q = u.body.length := ⟨_, rfl⟩
      obtain ⟨uq9, huq9⟩ : ∃ q, q = u.bc := ⟨_, rfl⟩
      obtain ⟨uq10, huq10⟩ : ∃ q, q = u.e.op := ⟨_, rfl⟩
      obtain ⟨uq11, huq11⟩ : ∃ q, q = u.e.val := ⟨_, rfl⟩
      obtain ⟨uq12, huq12⟩ : ∃ q, q = u.e.name := ⟨_, rfl⟩
      obtain ⟨uq13, huq13⟩ : ∃ q, q = u.e.a := ⟨_, rfl⟩
      obtain ⟨uq14, huq14⟩ : ∃ q, q = u.e.args.length := ⟨_, rfl⟩
      obtain ⟨uq15, huq15⟩ : ∃ q, q = u.e.cap := ⟨_, rfl⟩
      simp only [← huq0, ← huq1, ← huq2, ← huq3, ← huq4, ← huq5, ← huq6, ← huq7, ← huq8, ← huq9, ← huq10, ← huq11, ← huq12, ← huq13, ← huq14, ← huq15] at k0 k1 k2 k3 k4 k5 k6 k7 k8 k9 TC BC XC LP LB hHd hnm hcapp
      have HNP := Lib.hid huq2
      clear huq0 huq1 huq2 huq3 huq4 huq5 huq6 huq7 huq8 huq9 huq10 huq11 huq12 huq13 huq14 huq15
      replace TC := Lib.hid TC
      replace BC := Lib.hid BC
      replace XC := Lib.hid XC
      have v0 : ¬ 9223372036854775807 < P.size + 3 := by omega
      have v1 : ¬ 9223372036854775807 < P.size + 3 + uq0.size := by omega
      have v2 : ¬ 9223372036854775807 < P.size + 3 + uq0.size + 1 := by omega
      obtain ⟨wl, hwl⟩ : ∃ q, q = wr.alloc (.cells #[.string uq0, .slice uq1 uq2 uq3, .int .i64 uq4, .int .i64 uq5, .int .i64 uq6, .slice uq7 uq8 uq9, .int .i64 uq10, .int .u64 (uq11 : Int), .string uq12, .slice uq13 uq14 uq15] 50) := ⟨_, rfl⟩
      have XL : Hid (Ext wr wl) := Lib.hid (by rw [hwl]; exact (Ext.refl _).alloc _)
      have d0 : wl.cell? ⟨wr.heap.size, 0, none⟩ = some (.string uq0) := by rw [hwl]; simp
      have d1 : wl.cell? ⟨wr.heap.size, 1, none⟩ = some (.slice uq1 uq2 uq3) := by rw [hwl]; simp
      have d2 : wl.cell? ⟨wr.heap.size, 2, none⟩ = some (.int .i64 uq4) := by rw [hwl]; simp
      have d3 : wl.cell? ⟨wr.heap.size, 3, none⟩ = some (.int .i64 uq5) := by rw [hwl]; simp
      have d4 : wl.cell? ⟨wr.heap.size, 4, none⟩ = some (.int .i64 uq6) := by rw [hwl]; simp
      have d5 : wl.cell? ⟨wr.heap.size, 5, none⟩ = some (.slice uq7 uq8 uq9) := by rw [hwl]; simp
      have d6 : wl.cell? ⟨wr.heap.size, 6, none⟩ = some (.int .i64 uq10) := by rw [hwl]; simp
      have d7 : wl.cell? ⟨wr.heap.size, 7, none⟩ = some (.int .u64 (uq11 : Int)) := by rw [hwl]; simp
      have d8 : wl.cell? ⟨wr.heap.size, 8, none⟩ = some (.string uq12) := by rw [hwl]; simp
      have d9 : wl.cell? ⟨wr.heap.size, 9, none⟩ = some (.slice uq13 uq14 uq15) := by rw [hwl]; simp
      have HWL := Lib.hid hwl
      have HHD := Lib.hid hHd
      clear hwl hPs hnm hHd
      go_wp2_with fail
      rw [← HHD.out, ← HWL.out]
      replace c0 := XL.out.cell c0
      replace c1 := XL.out.cell c1
      replace c2 := XL.out.cell c2
      have HXW := Lib.hid (HX.out.trans XL.out)
      have HXI := Lib.hid (HX1.out.trans HXW.out)
      replace LP := Lib.hid (LP.to XL.out)
      replace LB := Lib.hid (LB.to XL.out)
      replace LE := Lib.hid (LE.out.to XL.out)
      obtain ⟨W2, hW2⟩ : ∃ q, q = wl := ⟨_, rfl⟩
      rw [← hW2] at HXW HXI LP LB LE d0 d1 d2 d3 d4 d5 d6 d7 d8 d9 c0 c1 c2 ⊢
      clear hW2 v0 v1 v2 k0 k1 k2 k3 k4 k5 k6 k7 k8 k9 HX XL HWL HHD
      go_loopw [3, 6] (CpRel Hd u.params W2) (fun _ s _ => uq2 - (intOf s).toNat)
      case atStart => exact ⟨0, rfl, Nat.zero_le _, by rw [show comF true ((u.params.map txP).take 0) = [] from rfl, show (⟨([] : List UInt8).toArray⟩ : ByteArray) = ⟨#[]⟩ from rfl, baNil2], Ext.refl _⟩
      case round =>
        obtain ⟨i, rfl, hi, rfl, hext⟩ := hrel
        rw [← HNP.out] at hi
        replace d0 := hext.cell d0
        replace d1 := hext.cell d1
        replace d2 := hext.cell d2
        replace d3 := hext.cell d3
        replace d4 := hext.cell d4
        replace d5 := hext.cell d5
        replace d6 := hext.cell d6
        replace d7 := hext.cell d7
        replace d8 := hext.cell d8
        replace d9 := hext.cell d9
        replace c0 := hext.cell c0
        replace c1 := hext.cell c1
        replace c2 := hext.cell c2
        have HY2 := Lib.hid hext
        clear hext
        by_cases hlt2 : i < uq2
        · obtain ⟨v, hvi⟩ := getE (l := u.params) (i := i) (by rw [← HNP.out]; exact hlt2)
          obtain ⟨⟨pb, po, rfl, p0, p1, p2, p3⟩, hinp⟩ := (LP.out.to HY2.out).at hvi
          have okq := all_at HOP.out hvi
          unfold okP at okq
          rw [Bool.and_eq_true] at okq
          have TP := fun w' h => RTypeText_c v.t.k v.t.b v.t.n w' h okq.2
          obtain ⟨Z, hZ⟩ : ∃ q : ByteArray, q = ⟨(tyTx v.t.k v.t.b v.t.n).toArray⟩ := ⟨_, rfl⟩
          have hZs : Z.size ≤ 47 := by rw [hZ, mkS]; exact tyTx_le okq.2
          have hnm2 := nameOk_le okq.1
          have ES2 : comF true ((u.params.map txP).take (i + 1)) = comF true ((u.params.map txP).take i) ++ ((if i = 0 then [] else (⟨#[44, 32]⟩ : ByteArray).data.toList) ++ txP v) := by
            have hm : (u.params.map txP)[i]? = some (txP v) := by rw [List.getElem?_map, hvi]; rfl
            rw [take_snoc hm, comF_snoc]
            congr 2
            have hjl : ((u.params.map txP).take i).isEmpty = decide (i = 0) := by
              have q2 : ((u.params.map txP).take i).length = i := by rw [List.length_take, List.length_map]; have := HNP.out; omega
              cases hq : (u.params.map txP).take i with
              | nil =>
                rw [hq] at q2
                rw [decide_eq_true (show i = 0 from q2.symm)]; rfl
              | cons y ys =>
                rw [hq] at q2
                rw [decide_eq_false (show ¬ i = 0 by simp at q2; omega)]; rfl
            rw [hjl]; by_cases h : i = 0 <;> simp [h]
          have HLJ2 := comF_le true (u.params.map txP) i
          obtain ⟨K, hK⟩ : ∃ q : ByteArray, q = Hd ++ ⟨(comF true ((u.params.map txP).take i)).toArray⟩ := ⟨_, rfl⟩
          have hKs : K.size ≤ 400000 := by rw [hK, ByteArray.size_append, mkS (comF true ((u.params.map txP).take i))]; have := HLC.out; have := HHS.out; omega
          have EW : K ++ (if i = 0 then (⟨#[]⟩ : ByteArray) else ⟨#[44, 32]⟩) ++ v.name ++ ⟨#[58, 32]⟩ ++ Z = Hd ++ ⟨(comF true ((u.params.map txP).take (i + 1))).toArray⟩ := by
            refine baEq ?_
            rw [ES2, hK, hZ]
            unfold txP
            by_cases h : i = 0
            · rw [if_pos h, if_pos h]; simp only [baApp, mkL]; simp
            · rw [if_neg h, if_neg h]; simp only [baApp, mkL]; simp
          rw [← hK]
          simp only [← hZ] at TP
          clear hK hvi hinp okq hZ HLJ2 ES2
          obtain ⟨vq0, hvq0⟩ : ∃ q, q = v.name := ⟨_, rfl⟩
          obtain ⟨vq1, hvq1⟩ : ∃ q, q = v.t.k := ⟨_, rfl⟩
          obtain ⟨vq2, hvq2⟩ : ∃ q, q = v.t.b := ⟨_, rfl⟩
          obtain ⟨vq3, hvq3⟩ : ∃ q, q = v.t.n := ⟨_, rfl⟩
          simp only [← hvq0, ← hvq1, ← hvq2, ← hvq3] at p0 p1 p2 p3 TP EW hnm2
          clear hvq0 hvq1 hvq2 hvq3
          replace TP := Lib.hid TP
          replace EW := Lib.hid EW
          by_cases hi0 : i = 0
          · have ti : ¬ 0 < i := by omega
            have EW : Hid (K ++ vq0 ++ ⟨#[58, 32]⟩ ++ Z = Hd ++ ⟨(comF true ((u.params.map txP).take (i + 1))).toArray⟩) := Lib.hid (by
              have e := EW.out
              rw [if_pos hi0] at e
              rw [baNil2] at e; exact e)
            have w0 : ¬ 9223372036854775807 < K.size + vq0.size := by omega
            have w1 : ¬ 9223372036854775807 < K.size + vq0.size + 2 := by omega
            have w2 : ¬ 9223372036854775807 < K.size + vq0.size + 2 + Z.size := by omega
            clear hKs hZs hnm2 hi0
            go_wp2_with fail
            refine region_factsL [[], [], [(1, 41)], [], [(2, 42), (3, 43)], [(4, 44)], [(5, 45)], [(0, 40), (6, 46)], [(7, 47)], [], [(9, 49)], [], [(10, 50), (11, 51)], [(12, 52)], [(13, 53)], [(14, 54)], [(8, 48), (15, 55)], [(16, 56)]] [some 40, some 41, some 42, some 43, some 44, some 45, some 46, some 47, some 48, some 49, some 50, some 51, some 52, some 53, some 54, some 55, some 56, some 3] [false, false, false, true, false, true, true, false, false, false, false, false, false, false, false, false, false, false, false, false, false, false, false, false, false, false, false, false, false, false, false, false, false, false, false, false, false, false, false, false, false, false, false, false, false, false, false, false, false, false, false, false, false, false, false, false, false, false, false, false, false, false, false, false, false, false, false, false, false, false, false, false, false, false, false, false, false, false, false, false, false, false, false, false, false, false, false, false, false, false, false, false, false, false, false, false, false, false, false, false, false, false, false, false, false, false, false, false, false, false, false, false, false, false, false, false, false] (by kernel_rfl) (by kernel_rfl) (by kernel_rfl) ?_
            dsimp only [maskL]
            with_reducible apply FromM.eq
            · intro w' hx; (try dsimp only [List.nil_append, List.cons_append, DepsL, DepsL1, setO, setN, favs, opsOf]); go_wp2; exact OpPostE.some _ rfl rfl (Ext.refl _) rfl
            with_reducible apply FromM.eq
            · intro w' hx; (try dsimp only [List.nil_append, List.cons_append, DepsL, DepsL1, setO, setN, favs, opsOf]); go_wp2; exact OpPostE.some _ rfl rfl (Ext.refl _) rfl
            with_reducible apply FromM.eq
            · intro w' hx; have d1x := hx.cell d1; have p0x := hx.cell p0; have p1x := hx.cell p1; have p2x := hx.cell p2; have p3x := hx.cell p3; (try dsimp only [List.nil_append, List.cons_append, DepsL, DepsL1, setO, setN, favs, opsOf]); go_wp2; exact OpPostE.some _ rfl rfl (Ext.refl _) rfl
            with_reducible apply FromM.eq
            · intro w' hx; (try dsimp only [List.nil_append, List.cons_append, DepsL, DepsL1, setO, setN, favs, opsOf]); go_wp2; exact OpPostE.some _ rfl rfl (Ext.refl _) rfl
            with_reducible apply FromM.eq
            · intro w' hx; (try dsimp only [List.nil_append, List.cons_append, DepsL, DepsL1, setO, setN, favs, opsOf]); go_wp2; exact OpPostE.some _ rfl rfl (Ext.refl _) rfl
            with_reducible apply FromM.eq
            · intro w' hx; (try dsimp only [List.nil_append, List.cons_append, DepsL, DepsL1, setO, setN, favs, opsOf]); go_wp2; exact OpPostE.some _ rfl rfl (Ext.refl _) rfl
            with_reducible apply FromM.eq
            · intro w' hx; have d1x := hx.cell d1; have p0x := hx.cell p0; have p1x := hx.cell p1; have p2x := hx.cell p2; have p3x := hx.cell p3; (try dsimp only [List.nil_append, List.cons_append, DepsL, DepsL1, setO, setN, favs, opsOf]); go_wp2; exact OpPostE.some _ rfl rfl (Ext.refl _) rfl
            with_reducible apply FromM.eq
            · intro w' hx; (try dsimp only [List.nil_append, List.cons_append, DepsL, DepsL1, setO, setN, favs, opsOf]); go_wp2; exact OpPostE.some _ rfl rfl (Ext.refl _) rfl
            with_reducible apply FromM.eq
            · intro w' hx; (try dsimp only [List.nil_append, List.cons_append, DepsL, DepsL1, setO, setN, favs, opsOf]); go_wp2; exact OpPostE.some _ rfl rfl (Ext.refl _) rfl
            with_reducible apply FromM.eq
            · intro w' hx; (try dsimp only [List.nil_append, List.cons_append, DepsL, DepsL1, setO, setN, favs, opsOf]); go_wp2; exact OpPostE.some _ rfl rfl (Ext.refl _) rfl
            with_reducible apply FromM.eq
            · intro w' hx; have d1x := hx.cell d1; have p0x := hx.cell p0; have p1x := hx.cell p1; have p2x := hx.cell p2; have p3x := hx.cell p3; (try dsimp only [List.nil_append, List.cons_append, DepsL, DepsL1, setO, setN, favs, opsOf]); go_wp2; exact OpPostE.some _ rfl rfl (Ext.refl _) rfl
            with_reducible apply FromM.eq
            · intro w' hx; (try dsimp only [List.nil_append, List.cons_append, DepsL, DepsL1, setO, setN, favs, opsOf]); go_wp2; exact OpPostE.some _ rfl rfl (Ext.refl _) rfl
            with_reducible apply FromM.eq
            · intro w' hx; (try dsimp only [List.nil_append, List.cons_append, DepsL, DepsL1, setO, setN, favs, opsOf]); go_wp2; exact OpPostE.some _ rfl rfl (Ext.refl _) rfl
            with_reducible apply FromM.eq
            · intro w' hx; (try dsimp only [List.nil_append, List.cons_append, DepsL, DepsL1, setO, setN, favs, opsOf]); go_wp2; exact OpPostE.some _ rfl rfl (Ext.refl _) rfl
            with_reducible apply FromM.eq
            · intro w' hx; have d1x := hx.cell d1; have p0x := hx.cell p0; have p1x := hx.cell p1; have p2x := hx.cell p2; have p3x := hx.cell p3; (try dsimp only [List.nil_append, List.cons_append, DepsL, DepsL1, setO, setN, favs, opsOf]); go_wp2; exact OpPostE.some _ rfl rfl (Ext.refl _) rfl
            with_reducible apply FromM.eq
            · intro w' hx; (try dsimp only [List.nil_append, List.cons_append, DepsL, DepsL1, setO, setN, favs, opsOf]); refine op_call 16 [.tmp 54] _ _ _ rfl rfl rfl rfl rfl rfl (fun _ _ => Tryd.call16 _ _) (TP.out _ (HTB.out.ext ((HXI.out.trans HY2.out).trans hx))) (fun e w2 h_ => ?_); obtain ⟨rfl, hb2⟩ := h_; exact ⟨_, rfl, hb2, rfl⟩
            with_reducible apply FromM.eq
            · intro w' hx; (try dsimp only [List.nil_append, List.cons_append, DepsL, DepsL1, setO, setN, favs, opsOf]); go_wp2; exact OpPostE.some _ rfl rfl (Ext.refl _) rfl
            with_reducible apply FromM.eq
            · intro w' hx; (try dsimp only [List.nil_append, List.cons_append, DepsL, DepsL1, setO, setN, favs, opsOf]); go_wp2; exact OpPostE.some _ rfl rfl (Ext.refl _) rfl
            with_reducible refine FromM.fin ?_
            intro w' hx
            (try dsimp only [List.nil_append, List.cons_append, EndL, DepsL1, setO, setN])
            have X3 := Lib.hid (HY2.out.trans hx)
            clear hx p0 p1 p2 p3 d0 d1 d2 d3 d4 d5 d6 d7 d8 d9 c0 c1 c2
            go_wp2_with fail
            go_roundw
            case rel => exact ⟨i + 1, by go_num, by rw [← HNP.out]; omega, by rw [← EW.out], X3.out⟩
            case measure => simp [intOf]; omega
          · have ti : 0 < i := by omega
            have EW : Hid (K ++ ⟨#[44, 32]⟩ ++ vq0 ++ ⟨#[58, 32]⟩ ++ Z = Hd ++ ⟨(comF true ((u.params.map txP).take (i + 1))).toArray⟩) := Lib.hid (by
              have e := EW.out
              rw [if_neg hi0] at e
              exact e)
            have w0 : ¬ 9223372036854775807 < K.size + 2 := by omega
            have w1 : ¬ 9223372036854775807 < K.size + 2 + vq0.size := by omega
            have w2 : ¬ 9223372036854775807 < K.size + 2 + vq0.size + 2 := by omega
            have w3 : ¬ 9223372036854775807 < K.size + 2 + vq0.size + 2 + Z.size := by omega
            clear hKs hZs hnm2 hi0
            go_wp2_with fail
            refine region_factsL [[], [], [(1, 41)], [], [(2, 42), (3, 43)], [(4, 44)], [(5, 45)], [(0, 40), (6, 46)], [(7, 47)], [], [(9, 49)], [], [(10, 50), (11, 51)], [(12, 52)], [(13, 53)], [(14, 54)], [(8, 48), (15, 55)], [(16, 56)]] [some 40, some 41, some 42, some 43, some 44, some 45, some 46, some 47, some 48, some 49, some 50, some 51, some 52, some 53, some 54, some 55, some 56, some 3] [false, false, false, true, false, true, true, false, false, false, false, false, false, false, false, false, false, false, false, false, false, false, false, false, false, false, false, false, false, false, false, false, false, false, false, false, false, false, false, false, false, false, false, false, false, false, false, false, false, false, false, false, false, false, false, false, false, false, false, false, false, false, false, false, false, false, false, false, false, false, false, false, false, false, false, false, false, false, false, false, false, false, false, false, false, false, false, false, false, false, false, false, false, false, false, false, false, false, false, false, false, false, false, false, false, false, false, false, false, false, false, false, false, false, false, false, false] (by kernel_rfl) (by kernel_rfl) (by kernel_rfl) ?_
            dsimp only [maskL]
            with_reducible apply FromM.eq
            · intro w' hx; (try dsimp only [List.nil_append, List.cons_append, DepsL, DepsL1, setO, setN, favs, opsOf]); go_wp2; exact OpPostE.some _ rfl rfl (Ext.refl _) rfl
            with_reducible apply FromM.eq
            · intro w' hx; (try dsimp only [List.nil_append, List.cons_append, DepsL, DepsL1, setO, setN, favs, opsOf]); go_wp2; exact OpPostE.some _ rfl rfl (Ext.refl _) rfl
            with_reducible apply FromM.eq
            · intro w' hx; have d1x := hx.cell d1; have p0x := hx.cell p0; have p1x := hx.cell p1; have p2x := hx.cell p2; have p3x := hx.cell p3; (try dsimp only [List.nil_append, List.cons_append, DepsL, DepsL1, setO, setN, favs, opsOf]); go_wp2; exact OpPostE.some _ rfl rfl (Ext.refl _) rfl
            with_reducible apply FromM.eq
            · intro w' hx; (try dsimp only [List.nil_append, List.cons_append, DepsL, DepsL1, setO, setN, favs, opsOf]); go_wp2; exact OpPostE.some _ rfl rfl (Ext.refl _) rfl
            with_reducible apply FromM.eq
            · intro w' hx; (try dsimp only [List.nil_append, List.cons_append, DepsL, DepsL1, setO, setN, favs, opsOf]); go_wp2; exact OpPostE.some _ rfl rfl (Ext.refl _) rfl
            with_reducible apply FromM.eq
            · intro w' hx; (try dsimp only [List.nil_append, List.cons_append, DepsL, DepsL1, setO, setN, favs, opsOf]); go_wp2; exact OpPostE.some _ rfl rfl (Ext.refl _) rfl
            with_reducible apply FromM.eq
            · intro w' hx; have d1x := hx.cell d1; have p0x := hx.cell p0; have p1x := hx.cell p1; have p2x := hx.cell p2; have p3x := hx.cell p3; (try dsimp only [List.nil_append, List.cons_append, DepsL, DepsL1, setO, setN, favs, opsOf]); go_wp2; exact OpPostE.some _ rfl rfl (Ext.refl _) rfl
            with_reducible apply FromM.eq
            · intro w' hx; (try dsimp only [List.nil_append, List.cons_append, DepsL, DepsL1, setO, setN, favs, opsOf]); go_wp2; exact OpPostE.some _ rfl rfl (Ext.refl _) rfl
            with_reducible apply FromM.eq
            · intro w' hx; (try dsimp only [List.nil_append, List.cons_append, DepsL, DepsL1, setO, setN, favs, opsOf]); go_wp2; exact OpPostE.some _ rfl rfl (Ext.refl _) rfl
            with_reducible apply FromM.eq
            · intro w' hx; (try dsimp only [List.nil_append, List.cons_append, DepsL, DepsL1, setO, setN, favs, opsOf]); go_wp2; exact OpPostE.some _ rfl rfl (Ext.refl _) rfl
            with_reducible apply FromM.eq
            · intro w' hx; have d1x := hx.cell d1; have p0x := hx.cell p0; have p1x := hx.cell p1; have p2x := hx.cell p2; have p3x := hx.cell p3; (try dsimp only [List.nil_append, List.cons_append, DepsL, DepsL1, setO, setN, favs, opsOf]); go_wp2; exact OpPostE.some _ rfl rfl (Ext.refl _) rfl
            with_reducible apply FromM.eq
            · intro w' hx; (try dsimp only [List.nil_append, List.cons_append, DepsL, DepsL1, setO, setN, favs, opsOf]); go_wp2; exact OpPostE.some _ rfl rfl (Ext.refl _) rfl
            with_reducible apply FromM.eq
            · intro w' hx; (try dsimp only [List.nil_append, List.cons_append, DepsL, DepsL1, setO, setN, favs, opsOf]); go_wp2; exact OpPostE.some _ rfl rfl (Ext.refl _) rfl
            with_reducible apply FromM.eq
            · intro w' hx; (try dsimp only [List.nil_append, List.cons_append, DepsL, DepsL1, setO, setN, favs, opsOf]); go_wp2; exact OpPostE.some _ rfl rfl (Ext.refl _) rfl
            with_reducible apply FromM.eq
            · intro w' hx; have d1x := hx.cell d1; have p0x := hx.cell p0; have p1x := hx.cell p1; have p2x := hx.cell p2; have p3x := hx.cell p3; (try dsimp only [List.nil_append, List.cons_append, DepsL, DepsL1, setO, setN, favs, opsOf]); go_wp2; exact OpPostE.some _ rfl rfl (Ext.refl _) rfl
            with_reducible apply FromM.eq
            · intro w' hx; (try dsimp only [List.nil_append, List.cons_append, DepsL, DepsL1, setO, setN, favs, opsOf]); refine op_call 16 [.tmp 54] _ _ _ rfl rfl rfl rfl rfl rfl (fun _ _ => Tryd.call16 _ _) (TP.out _ (HTB.out.ext ((HXI.out.trans HY2.out).trans hx))) (fun e w2 h_ => ?_); obtain ⟨rfl, hb2⟩ := h_; exact ⟨_, rfl, hb2, rfl⟩
            with_reducible apply FromM.eq
            · intro w' hx; (try dsimp only [List.nil_append, List.cons_append, DepsL, DepsL1, setO, setN, favs, opsOf]); go_wp2; exact OpPostE.some _ rfl rfl (Ext.refl _) rfl
            with_reducible apply FromM.eq
            · intro w' hx; (try dsimp only [List.nil_append, List.cons_append, DepsL, DepsL1, setO, setN, favs, opsOf]); go_wp2; exact OpPostE.some _ rfl rfl (Ext.refl _) rfl
            with_reducible refine FromM.fin ?_
            intro w' hx
            (try dsimp only [List.nil_append, List.cons_append, EndL, DepsL1, setO, setN])
            have X3 := Lib.hid (HY2.out.trans hx)
            clear hx p0 p1 p2 p3 d0 d1 d2 d3 d4 d5 d6 d7 d8 d9 c0 c1 c2
            go_wp2_with fail
            go_roundw
            case rel => exact ⟨i + 1, by go_num, by rw [← HNP.out]; omega, by rw [← EW.out], X3.out⟩
            case measure => simp [intOf]; omega
        · obtain rfl : uq2 = i := by omega
          have ET2 : Hid ((u.params.map txP).take uq2 = u.params.map txP) := Lib.hid (List.take_of_length_le (by rw [List.length_map, HNP.out]; exact Nat.le_refl _))
          have EC : Hid (Hd ++ ⟨(comF true ((u.params.map txP).take uq2)).toArray⟩ = Hd ++ C) := Lib.hid (by rw [ET2.out, HC.out])
          rw [EC.out]
          have hHs := HHS.out
          have hCs := HLC2.out
          have hh := HSZ.out
          have w0 : ¬ 9223372036854775807 < Hd.size + C.size + 3 := by omega
          have w1 : ¬ 9223372036854775807 < Hd.size + C.size + 3 + Y.size := by omega
          have w2 : ¬ 9223372036854775807 < Hd.size + C.size + 3 + Y.size + 3 := by omega
          have w3 : ¬ 9223372036854775807 < Hd.size + C.size + 3 + Y.size + 3 + tb.size := by omega
          have w4 : ¬ 9223372036854775807 < Hd.size + C.size + 3 + Y.size + 3 + tb.size + 7 := by omega
          have w5 : ¬ 9223372036854775807 < Hd.size + C.size + 3 + Y.size + 3 + tb.size + 7 + te.size := by omega
          have w6 : ¬ 9223372036854775807 < Hd.size + C.size + 3 + Y.size + 3 + tb.size + 7 + te.size + 4 := by omega
          clear hHs hCs hh
          go_wp2_with fail
          refine region_factsL [[], [(0, 57)], [], [(2, 59)], [(3, 60)], [(1, 58), (4, 61)], [(5, 62)], [], [(7, 64)], [(8, 65)], [(6, 63), (9, 66)], [(10, 67)], [], [(12, 69)], [(13, 70)], [(11, 68), (14, 71)], [(15, 72)], [(16, 73)]] [some 57, some 58, some 59, some 60, some 61, some 62, some 63, some 64, some 65, some 66, some 67, some 68, some 69, some 70, some 71, some 72, some 73, some 3] [false, false, false, true, false, true, false, false, false, false, false, false, false, false, false, false, false, false, false, false, false, false, false, false, false, false, false, false, false, false, false, false, false, false, false, false, false, false, false, false, false, false, false, false, false, false, false, false, false, false, false, false, false, false, false, false, false, false, false, false, false, false, false, false, false, false, false, false, false, false, false, false, false, false, false, false, false, false, false, false, false, false, false, false, false, false, false, false, false, false, false, false, false, false, false, false, false, false, false, false, false, false, false, false, false, false, false, false, false, false, false, false, false, false, false, false, false] (by kernel_rfl) (by kernel_rfl) (by kernel_rfl) ?_
          dsimp only [maskL]
          with_reducible apply FromM.eq
          · intro w' hx; (try dsimp only [List.nil_append, List.cons_append, DepsL, DepsL1, setO, setN, favs, opsOf]); go_wp2; exact OpPostE.some _ rfl rfl (Ext.refl _) rfl
          with_reducible apply FromM.eq
          · intro w' hx; (try dsimp only [List.nil_append, List.cons_append, DepsL, DepsL1, setO, setN, favs, opsOf]); go_wp2; exact OpPostE.some _ rfl rfl (Ext.refl _) rfl
          with_reducible apply FromM.eq
          · intro w' hx; (try dsimp only [List.nil_append, List.cons_append, DepsL, DepsL1, setO, setN, favs, opsOf]); go_wp2; exact OpPostE.some _ rfl rfl (Ext.refl _) rfl
          with_reducible apply FromM.eq
          · intro w' hx; have d2x := hx.cell d2; have d3x := hx.cell d3; have d4x := hx.cell d4; have d5x := hx.cell d5; have d6x := hx.cell d6; have d7x := hx.cell d7; have d8x := hx.cell d8; have d9x := hx.cell d9; (try dsimp only [List.nil_append, List.cons_append, DepsL, DepsL1, setO, setN, favs, opsOf]); go_wp2; exact OpPostE.some _ rfl rfl (Ext.refl _) rfl
          with_reducible apply FromM.eq
          · intro w' hx; (try dsimp only [List.nil_append, List.cons_append, DepsL, DepsL1, setO, setN, favs, opsOf]); refine op_call 16 [.tmp 60] _ _ _ rfl rfl rfl rfl rfl rfl (fun _ _ => Tryd.call16 _ _) (TC.out _ (HTB.out.ext ((HXI.out.trans HY2.out).trans hx))) (fun e w2 h_ => ?_); obtain ⟨rfl, hb2⟩ := h_; exact ⟨_, rfl, hb2, rfl⟩
          with_reducible apply FromM.eq
          · intro w' hx; (try dsimp only [List.nil_append, List.cons_append, DepsL, DepsL1, setO, setN, favs, opsOf]); go_wp2; exact OpPostE.some _ rfl rfl (Ext.refl _) rfl
          with_reducible apply FromM.eq
          · intro w' hx; (try dsimp only [List.nil_append, List.cons_append, DepsL, DepsL1, setO, setN, favs, opsOf]); go_wp2; exact OpPostE.some _ rfl rfl (Ext.refl _) rfl
          with_reducible apply FromM.eq
          · intro w' hx; (try dsimp only [List.nil_append, List.cons_append, DepsL, DepsL1, setO, setN, favs, opsOf]); go_wp2; exact OpPostE.some _ rfl rfl (Ext.refl _) rfl
          with_reducible apply FromM.eq
          · intro w' hx; have d2x := hx.cell d2; have d3x := hx.cell d3; have d4x := hx.cell d4; have d5x := hx.cell d5; have d6x := hx.cell d6; have d7x := hx.cell d7; have d8x := hx.cell d8; have d9x := hx.cell d9; (try dsimp only [List.nil_append, List.cons_append, DepsL, DepsL1, setO, setN, favs, opsOf]); go_wp2; exact OpPostE.some _ rfl rfl (Ext.refl _) rfl
          with_reducible apply FromM.eq
          · intro w' hx; (try dsimp only [List.nil_append, List.cons_append, DepsL, DepsL1, setO, setN, favs, opsOf]); refine op_call 52 [.tmp 65] _ _ _ rfl rfl rfl rfl rfl rfl (fun _ _ => Tryd.call52 _ _) (BC.out _ (HTB.out.ext ((HXI.out.trans HY2.out).trans hx)) (LB.out.to (HY2.out.trans hx))) (fun e w2 h_ => ?_); obtain ⟨rfl, hb2⟩ := h_; exact ⟨_, rfl, hb2, rfl⟩
          with_reducible apply FromM.eq
          · intro w' hx; (try dsimp only [List.nil_append, List.cons_append, DepsL, DepsL1, setO, setN, favs, opsOf]); go_wp2; exact OpPostE.some _ rfl rfl (Ext.refl _) rfl
          with_reducible apply FromM.eq
          · intro w' hx; (try dsimp only [List.nil_append, List.cons_append, DepsL, DepsL1, setO, setN, favs, opsOf]); go_wp2; exact OpPostE.some _ rfl rfl (Ext.refl _) rfl
          with_reducible apply FromM.eq
          · intro w' hx; (try dsimp only [List.nil_append, List.cons_append, DepsL, DepsL1, setO, setN, favs, opsOf]); go_wp2; exact OpPostE.some _ rfl rfl (Ext.refl _) rfl
          with_reducible apply FromM.eq
          · intro w' hx; have d2x := hx.cell d2; have d3x := hx.cell d3; have d4x := hx.cell d4; have d5x := hx.cell d5; have d6x := hx.cell d6; have d7x := hx.cell d7; have d8x := hx.cell d8; have d9x := hx.cell d9; (try dsimp only [List.nil_append, List.cons_append, DepsL, DepsL1, setO, setN, favs, opsOf]); go_wp2; exact OpPostE.some _ rfl rfl (Ext.refl _) rfl
          with_reducible apply FromM.eq
          · intro w' hx; (try dsimp only [List.nil_append, List.cons_append, DepsL, DepsL1, setO, setN, favs, opsOf]); refine op_call 53 [.tmp 70] _ _ _ rfl rfl rfl rfl rfl rfl (fun _ _ => Tryd.call53 _ _) (XC.out _ (LE.out.to (HY2.out.trans hx))) (fun e w2 h_ => ?_); obtain ⟨rfl, hb2⟩ := h_; exact ⟨_, rfl, hb2, rfl⟩
          with_reducible apply FromM.eq
          · intro w' hx; (try dsimp only [List.nil_append, List.cons_append, DepsL, DepsL1, setO, setN, favs, opsOf]); go_wp2; exact OpPostE.some _ rfl rfl (Ext.refl _) rfl
          with_reducible apply FromM.eq
          · intro w' hx; (try dsimp only [List.nil_append, List.cons_append, DepsL, DepsL1, setO, setN, favs, opsOf]); go_wp2; exact OpPostE.some _ rfl rfl (Ext.refl _) rfl
          with_reducible apply FromM.eq
          · intro w' hx; (try dsimp only [List.nil_append, List.cons_append, DepsL, DepsL1, setO, setN, favs, opsOf]); go_wp2; exact OpPostE.some _ rfl rfl (Ext.refl _) rfl
          with_reducible refine FromM.fin ?_
          intro w' hx
          (try dsimp only [List.nil_append, List.cons_append, EndL, DepsL1, setO, setN])
          have X2 := Lib.hid (HXW.out.trans (HY2.out.trans hx))
          clear hx d0 d1 d2 d3 d4 d5 d6 d7 d8 d9 c0 c1 c2
          go_wp2_with fail
          go_roundw
          case rel => exact ⟨j + 1, by go_num, by rw [← HNF.out]; omega, by rw [← EV.out], X2.out⟩
          case measure => simp [intOf]; omega
    · obtain rfl : xq1 = j := by omega
      have ET : Hid (x.funcs.take xq1 = x.funcs) := Lib.hid (List.take_of_length_le (by rw [HNF.out]; exact Nat.le_refl _))
      obtain ⟨G1, hG1a⟩ : ∃ q : ByteArray, q = ⟨(linesL 10 txF (x.funcs.take xq1)).toArray⟩ := ⟨_, rfl⟩
      have hG1 : G1.size ≤ 100000 ∧ G1 = ⟨(linesL 10 txF x.funcs).toArray⟩ := by
        refine ⟨by rw [hG1a, ET.out, mkS]; exact HLF.out, by rw [hG1a, ET.out]⟩
      rw [← hG1a]
      have X := HX1.out.trans HX.out
      obtain ⟨W3, hW3⟩ : ∃ q, q = wr := ⟨_, rfl⟩
      rw [← hW3] at c0 c1 c2 X ⊢
      clear hW3 hG1a HX1 HX ET
      have HG1 := Lib.hid hG1
      clear hG1
      have HX3 := Lib.hid X
      clear X
      go_wp2_with fail
      clear c0
      go_loopw [3, 7] (BdRel txD 10 G1 x.decls W3) (fun _ s _ => xq4 - (intOf s).toNat)
      case atStart => exact ⟨0, rfl, Nat.zero_le _, by rw [show (linesL 10 txD (x.decls.take 0)) = [] from rfl]; rw [show (⟨([] : List UInt8).toArray⟩ : ByteArray) = ⟨#[]⟩ from rfl, baNil2], Ext.refl _⟩
      case round =>
        obtain ⟨j, rfl, hj, rfl, hext⟩ := hrel
        rw [← HND.out] at hj
        replace c1 := hext.cell c1
        replace c2 := hext.cell c2
        have HX := Lib.hid hext
        clear hext
        by_cases hlt : j < xq4
        · obtain ⟨u, hxj⟩ := getE (l := x.decls) (i := j) (by rw [← HND.out]; exact hlt)
          obtain ⟨⟨ab, o, rfl, k0, k1, k2, k3, k4⟩, hin⟩ := (HD.out.to (HX3.out.trans HX.out)).at hxj
          have ES := linesL_take 10 txD hxj
          have HLJ := linesL_le 10 txD x.decls j
          have okp := all_at HOD.out hxj
          unfold okD at okp
          rw [Bool.and_eq_true] at okp
          have TC := fun w' h => RTypeText_c u.t.k u.t.b u.t.n w' h okp.2
          obtain ⟨Y, hY⟩ : ∃ q : ByteArray, q = ⟨(tyTx u.t.k u.t.b u.t.n).toArray⟩ := ⟨_, rfl⟩
          have hYs : Y.size ≤ 47 := by rw [hY, mkS]; exact tyTx_le okp.2
          have hnm := nameOk_le okp.1
          obtain ⟨P, hP⟩ : ∃ q : ByteArray, q = G1 ++ ⟨(linesL 10 txD (x.decls.take j)).toArray⟩ := ⟨_, rfl⟩
          have hPs : P.size ≤ 300000 := by rw [hP, ByteArray.size_append, mkS (linesL 10 txD (x.decls.take j))]; have := HLD.out; have := HG1.out.1; omega
          have EV : P ++ (if u.pub = true then (⟨#[112, 117, 98, 108, 105, 99, 32]⟩ : ByteArray) else ⟨#[115, 101, 99, 114, 101, 116, 32]⟩) ++ u.name ++ ⟨#[58, 32]⟩ ++ Y ++ ⟨#[59, 10]⟩ = G1 ++ ⟨(linesL 10 txD (x.decls.take (j + 1))).toArray⟩ := by
            refine baEq ?_
            rw [ES, hP, hY]
            unfold txD
            cases u.pub <;> (simp only [baApp, mkL]; simp)
          rw [← hP]
          simp only [← hY] at TC
          clear hP hxj hin okp hY HLJ ES
          obtain ⟨uq0, huq0⟩ : ∃ q, q = u.pub := ⟨_, rfl⟩
          obtain ⟨uq1, huq1⟩ : ∃ q, q = u.name := ⟨_, rfl⟩
          obtain ⟨uq2, huq2⟩ : ∃ q, q = u.t.k := ⟨_, rfl⟩
          obtain ⟨uq3, huq3⟩ : ∃ q, q = u.t.b := ⟨_, rfl⟩
          obtain ⟨uq4, huq4⟩ : ∃ q, q = u.t.n := ⟨_, rfl⟩
          simp only [← huq0, ← huq1, ← huq2, ← huq3, ← huq4] at k0 k1 k2 k3 k4 TC EV hnm
          clear huq0 huq1 huq2 huq3 huq4
          replace TC := Lib.hid TC
          replace EV := Lib.hid EV
          obtain ⟨wl, hwl⟩ : ∃ q, q = wr.alloc (.cells #[.bool uq0, .string uq1, .int .i64 uq2, .int .i64 uq3, .int .i64 uq4] 55) := ⟨_, rfl⟩
          have XL : Hid (Ext wr wl) := Lib.hid (by rw [hwl]; exact (Ext.refl _).alloc _)
          have d0 : wl.cell? ⟨wr.heap.size, 0, none⟩ = some (.bool uq0) := by rw [hwl]; simp
          have d1 : wl.cell? ⟨wr.heap.size, 1, none⟩ = some (.string uq1) := by rw [hwl]; simp
          have d2 : wl.cell? ⟨wr.heap.size, 2, none⟩ = some (.int .i64 uq2) := by rw [hwl]; simp
          have d3 : wl.cell? ⟨wr.heap.size, 3, none⟩ = some (.int .i64 uq3) := by rw [hwl]; simp
          have d4 : wl.cell? ⟨wr.heap.size, 4, none⟩ = some (.int .i64 uq4) := by rw [hwl]; simp
          have HWL := Lib.hid hwl
          have hc1 := XL.out.cell c1
          have hc2 := XL.out.cell c2
          clear hwl hc1 hc2
          cases uq0
          · replace EV : Hid (P ++ ⟨#[115, 101, 99, 114, 101, 116, 32]⟩ ++ uq1 ++ ⟨#[58, 32]⟩ ++ Y ++ ⟨#[59, 10]⟩ = G1 ++ ⟨(linesL 10 txD (x.decls.take (j + 1))).toArray⟩) := Lib.hid EV.out
            have w0 : ¬ 9223372036854775807 < P.size + 7 := by omega
            have w1 : ¬ 9223372036854775807 < P.size + 7 + uq1.size := by omega
            have w2 : ¬ 9223372036854775807 < P.size + 7 + uq1.size + 2 := by omega
            have w3 : ¬ 9223372036854775807 < P.size + 7 + uq1.size + 2 + Y.size := by omega
            have w4 : ¬ 9223372036854775807 < P.size + 7 + uq1.size + 2 + Y.size + 2 := by omega
            clear hPs hYs hnm
            go_wp2_with fail
            rw [← HWL.out]
            refine region_factsL [[], [], [(0, 88), (1, 89)], [], [(3, 91)], [(2, 90), (4, 92)], [(5, 93)], [], [(7, 95)], [(8, 96)], [(6, 94), (9, 97)], [(10, 98)], [(11, 99)]] [some 88, some 89, some 90, some 91, some 92, some 93, some 94, some 95, some 96, some 97, some 98, some 99, some 3] [false, false, false, true, false, false, false, false, true, true, false, false, false, false, false, false, false, false, false, false, false, false, false, false, false, false, false, false, false, false, false, false, false, false, false, false, false, false, false, false, false, false, false, false, false, false, false, false, false, false, false, false, false, false, false, false, false, false, false, false, false, false, false, false, false, false, false, false, false, false, false, false, false, false, false, false, false, false, false, false, false, false, false, false, false, false, false, false, false, false, false, false, false, false, false, false, false, false, false, false, false, false, false, false, false, false, false, false, false, false, false, false, false, false, false, false, false] (by kernel_rfl) (by kernel_rfl) (by kernel_rfl) ?_
            dsimp only [maskL]
            with_reducible apply FromM.eq
            · intro w' hx; (try dsimp only [List.nil_append, List.cons_append, DepsL, DepsL1, setO, setN, favs, opsOf]); go_wp2; exact OpPostE.some _ rfl rfl (Ext.refl _) rfl
            with_reducible apply FromM.eq
            · intro w' hx; (try dsimp only [List.nil_append, List.cons_append, DepsL, DepsL1, setO, setN, favs, opsOf]); go_wp2; exact OpPostE.some _ rfl rfl (Ext.refl _) rfl
            with_reducible apply FromM.eq
            · intro w' hx; (try dsimp only [List.nil_append, List.cons_append, DepsL, DepsL1, setO, setN, favs, opsOf]); go_wp2; exact OpPostE.some _ rfl rfl (Ext.refl _) rfl
            with_reducible apply FromM.eq
            · intro w' hx; (try dsimp only [List.nil_append, List.cons_append, DepsL, DepsL1, setO, setN, favs, opsOf]); go_wp2; exact OpPostE.some _ rfl rfl (Ext.refl _) rfl
            with_reducible apply FromM.eq
            · intro w' hx; have d1x := hx.cell d1; have d2x := hx.cell d2; have d3x := hx.cell d3; have d4x := hx.cell d4; (try dsimp only [List.nil_append, List.cons_append, DepsL, DepsL1, setO, setN, favs, opsOf]); go_wp2; exact OpPostE.some _ rfl rfl (Ext.refl _) rfl
            with_reducible apply FromM.eq
            · intro w' hx; (try dsimp only [List.nil_append, List.cons_append, DepsL, DepsL1, setO, setN, favs, opsOf]); go_wp2; exact OpPostE.some _ rfl rfl (Ext.refl _) rfl
            with_reducible apply FromM.eq
            · intro w' hx; (try dsimp only [List.nil_append, List.cons_append, DepsL, DepsL1, setO, setN, favs, opsOf]); go_wp2; exact OpPostE.some _ rfl rfl (Ext.refl _) rfl
            with_reducible apply FromM.eq
            · intro w' hx; (try dsimp only [List.nil_append, List.cons_append, DepsL, DepsL1, setO, setN, favs, opsOf]); go_wp2; exact OpPostE.some _ rfl rfl (Ext.refl _) rfl
            with_reducible apply FromM.eq
            · intro w' hx; have d1x := hx.cell d1; have d2x := hx.cell d2; have d3x := hx.cell d3; have d4x := hx.cell d4; (try dsimp only [List.nil_append, List.cons_append, DepsL, DepsL1, setO, setN, favs, opsOf]); go_wp2; exact OpPostE.some _ rfl rfl (Ext.refl _) rfl
            with_reducible apply FromM.eq
            · intro w' hx; (try dsimp only [List.nil_append, List.cons_append, DepsL, DepsL1, setO, setN, favs, opsOf]); refine op_call 16 [.tmp 96] _ _ _ rfl rfl rfl rfl rfl rfl (fun _ _ => Tryd.call16 _ _) (TC.out _ (HTB.out.ext ((HX3.out.trans (HX.out.trans XL.out)).trans hx))) (fun e w2 h_ => ?_); obtain ⟨rfl, hb2⟩ := h_; exact ⟨_, rfl, hb2, rfl⟩
            with_reducible apply FromM.eq
            · intro w' hx; (try dsimp only [List.nil_append, List.cons_append, DepsL, DepsL1, setO, setN, favs, opsOf]); go_wp2; exact OpPostE.some _ rfl rfl (Ext.refl _) rfl
            with_reducible apply FromM.eq
            · intro w' hx; (try dsimp only [List.nil_append, List.cons_append, DepsL, DepsL1, setO, setN, favs, opsOf]); go_wp2; exact OpPostE.some _ rfl rfl (Ext.refl _) rfl
            with_reducible apply FromM.eq
            · intro w' hx; (try dsimp only [List.nil_append, List.cons_append, DepsL, DepsL1, setO, setN, favs, opsOf]); go_wp2; exact OpPostE.some _ rfl rfl (Ext.refl _) rfl
            with_reducible refine FromM.fin ?_
            intro w' hx
            (try dsimp only [List.nil_append, List.cons_append, EndL, DepsL1, setO, setN])
            have X2 := Lib.hid ((HX.out.trans XL.out).trans hx)
            clear hx d0 d1 d2 d3 d4 k0 k1 k2 k3 k4 c1 c2
            go_wp2_with fail
            go_roundw
            case rel => exact ⟨j + 1, by go_num, by rw [← HND.out]; omega, by rw [← EV.out], X2.out⟩
            case measure => simp [intOf]; omega
          · replace EV : Hid (P ++ ⟨#[112, 117, 98, 108, 105, 99, 32]⟩ ++ uq1 ++ ⟨#[58, 32]⟩ ++ Y ++ ⟨#[59, 10]⟩ = G1 ++ ⟨(linesL 10 txD (x.decls.take (j + 1))).toArray⟩) := Lib.hid EV.out
            have w0 : ¬ 9223372036854775807 < P.size + 7 := by omega
            have w1 : ¬ 9223372036854775807 < P.size + 7 + uq1.size := by omega
            have w2 : ¬ 9223372036854775807 < P.size + 7 + uq1.size + 2 := by omega
            have w3 : ¬ 9223372036854775807 < P.size + 7 + uq1.size + 2 + Y.size := by omega
            have w4 : ¬ 9223372036854775807 < P.size + 7 + uq1.size + 2 + Y.size + 2 := by omega
            clear hPs hYs hnm
            go_wp2_with fail
            rw [← HWL.out]
            refine region_factsL [[], [], [(0, 88), (1, 89)], [], [(3, 91)], [(2, 90), (4, 92)], [(5, 93)], [], [(7, 95)], [(8, 96)], [(6, 94), (9, 97)], [(10, 98)], [(11, 99)]] [some 88, some 89, some 90, some 91, some 92, some 93, some 94, some 95, some 96, some 97, some 98, some 99, some 3] [false, false, false, true, false, false, false, false, true, true, false, false, false, false, false, false, false, false, false, false, false, false, false, false, false, false, false, false, false, false, false, false, false, false, false, false, false, false, false, false, false, false, false, false, false, false, false, false, false, false, false, false, false, false, false, false, false, false, false, false, false, false, false, false, false, false, false, false, false, false, false, false, false, false, false, false, false, false, false, false, false, false, false, false, false, false, false, false, false, false, false, false, false, false, false, false, false, false, false, false, false, false, false, false, false, false, false, false, false, false, false, false, false, false, false, false, false] (by kernel_rfl) (by kernel_rfl) (by kernel_rfl) ?_
            dsimp only [maskL]
            with_reducible apply FromM.eq
            · intro w' hx; (try dsimp only [List.nil_append, List.cons_append, DepsL, DepsL1, setO, setN, favs, opsOf]); go_wp2; exact OpPostE.some _ rfl rfl (Ext.refl _) rfl
            with_reducible apply FromM.eq
            · intro w' hx; (try dsimp only [List.nil_append, List.cons_append, DepsL, DepsL1, setO, setN, favs, opsOf]); go_wp2; exact OpPostE.some _ rfl rfl (Ext.refl _) rfl
            with_reducible apply FromM.eq
            · intro w' hx; (try dsimp only [List.nil_append, List.cons_append, DepsL, DepsL1, setO, setN, favs, opsOf]); go_wp2; exact OpPostE.some _ rfl rfl (Ext.refl _) rfl
            with_reducible apply FromM.eq
            · intro w' hx; (try dsimp only [List.nil_append, List.cons_append, DepsL, DepsL1, setO, setN, favs, opsOf]); go_wp2; exact OpPostE.some _ rfl rfl (Ext.refl _) rfl
            with_reducible apply FromM.eq
            · intro w' hx; have d1x := hx.cell d1; have d2x := hx.cell d2; have d3x := hx.cell d3; have d4x := hx.cell d4; (try dsimp only [List.nil_append, List.cons_append, DepsL, DepsL1, setO, setN, favs, opsOf]); go_wp2; exact OpPostE.some _ rfl rfl (Ext.refl _) rfl
            with_reducible apply FromM.eq
            · intro w' hx; (try dsimp only [List.nil_append, List.cons_append, DepsL, DepsL1, setO, setN, favs, opsOf]); go_wp2; exact OpPostE.some _ rfl rfl (Ext.refl _) rfl
            with_reducible apply FromM.eq
            · intro w' hx; (try dsimp only [List.nil_append, List.cons_append, DepsL, DepsL1, setO, setN, favs, opsOf]); go_wp2; exact OpPostE.some _ rfl rfl (Ext.refl _) rfl
            with_reducible apply FromM.eq
            · intro w' hx; (try dsimp only [List.nil_append, List.cons_append, DepsL, DepsL1, setO, setN, favs, opsOf]); go_wp2; exact OpPostE.some _ rfl rfl (Ext.refl _) rfl
            with_reducible apply FromM.eq
            · intro w' hx; have d1x := hx.cell d1; have d2x := hx.cell d2; have d3x := hx.cell d3; have d4x := hx.cell d4; (try dsimp only [List.nil_append, List.cons_append, DepsL, DepsL1, setO, setN, favs, opsOf]); go_wp2; exact OpPostE.some _ rfl rfl (Ext.refl _) rfl
            with_reducible apply FromM.eq
            · intro w' hx; (try dsimp only [List.nil_append, List.cons_append, DepsL, DepsL1, setO, setN, favs, opsOf]); refine op_call 16 [.tmp 96] _ _ _ rfl rfl rfl rfl rfl rfl (fun _ _ => Tryd.call16 _ _) (TC.out _ (HTB.out.ext ((HX3.out.trans (HX.out.trans XL.out)).trans hx))) (fun e w2 h_ => ?_); obtain ⟨rfl, hb2⟩ := h_; exact ⟨_, rfl, hb2, rfl⟩
            with_reducible apply FromM.eq
            · intro w' hx; (try dsimp only [List.nil_append, List.cons_append, DepsL, DepsL1, setO, setN, favs, opsOf]); go_wp2; exact OpPostE.some _ rfl rfl (Ext.refl _) rfl
            with_reducible apply FromM.eq
            · intro w' hx; (try dsimp only [List.nil_append, List.cons_append, DepsL, DepsL1, setO, setN, favs, opsOf]); go_wp2; exact OpPostE.some _ rfl rfl (Ext.refl _) rfl
            with_reducible apply FromM.eq
            · intro w' hx; (try dsimp only [List.nil_append, List.cons_append, DepsL, DepsL1, setO, setN, favs, opsOf]); go_wp2; exact OpPostE.some _ rfl rfl (Ext.refl _) rfl
            with_reducible refine FromM.fin ?_
            intro w' hx
            (try dsimp only [List.nil_append, List.cons_append, EndL, DepsL1, setO, setN])
            have X2 := Lib.hid ((HX.out.trans XL.out).trans hx)
            clear hx d0 d1 d2 d3 d4 k0 k1 k2 k3 k4 c1 c2
            go_wp2_with fail
            go_roundw
            case rel => exact ⟨j + 1, by go_num, by rw [← HND.out]; omega, by rw [← EV.out], X2.out⟩
            case measure => simp [intOf]; omega
        · obtain rfl : xq4 = j := by omega
          have ET : Hid (x.decls.take xq4 = x.decls) := Lib.hid (List.take_of_length_le (by rw [HND.out]; exact Nat.le_refl _))
          obtain ⟨G2, hG2a⟩ : ∃ q : ByteArray, q = G1 ++ ⟨(linesL 10 txD (x.decls.take xq4)).toArray⟩ := ⟨_, rfl⟩
          have hG2 : G2.size ≤ 300000 ∧ G2 ++ ⟨(linesL 10 txS x.body).toArray⟩ = ⟨(txG x).toArray⟩ := by
            refine ⟨by rw [hG2a, ET.out, ByteArray.size_append, mkS (linesL 10 txD x.decls)]; have := HLD.out; have := HG1.out.1; omega, baEq ?_⟩
            rw [hG2a, ET.out, HG1.out.2]
            unfold txG
            simp only [baApp, mkL]; simp
          rw [← hG2a]
          have X := HX3.out.trans HX.out
          obtain ⟨W4, hW4⟩ : ∃ q, q = wr := ⟨_, rfl⟩
          rw [← hW4] at c1 c2 X ⊢
          clear hW4 hG2a HX3 HX HG1 ET
          have HG2 := Lib.hid hG2
          clear hG2
          have HX4 := Lib.hid X
          clear X
          go_wp2_with fail
          clear c1
          go_loopw [3, 10] (BdRel txS 10 G2 x.body W4) (fun _ s _ => xq7 - (intOf s).toNat)
          case atStart => exact ⟨0, rfl, Nat.zero_le _, by rw [show (linesL 10 txS (x.body.take 0)) = [] from rfl]; rw [show (⟨([] : List UInt8).toArray⟩ : ByteArray) = ⟨#[]⟩ from rfl, baNil2], Ext.refl _⟩
          case round =>
            obtain ⟨j, rfl, hj, rfl, hext⟩ := hrel
            rw [← HNB.out] at hj
            replace c2 := hext.cell c2
            have HX := Lib.hid hext
            clear hext
            by_cases hlt : j < xq7
            · obtain ⟨u, hxj⟩ := getE (l := x.body) (i := j) (by rw [← HNB.out]; exact hlt)
              obtain ⟨⟨ab, o, rfl, k0, k1, k2, k3, k4, k5, k6, k7, k8, k9, k10, k11, k12⟩, hin⟩ := (HL.out.to (HX4.out.trans HX.out)).at hxj
              have ES := linesL_take 10 txS hxj
              have HLJ := linesL_le 10 txS x.body j
              have hq := len_txS (all_at HOB.out hxj) hin
              have hq2 := wtSs_get hxj
              have hq3 := HWB.out
              have PC := fun w' h h2 => RStmtText_c u (all_at HOB.out hxj) (by omega) w' h h2
              obtain ⟨P, hP⟩ : ∃ q : ByteArray, q = G2 ++ ⟨(linesL 10 txS (x.body.take j)).toArray⟩ := ⟨_, rfl⟩
              obtain ⟨Q, hQ⟩ : ∃ q : ByteArray, q = ⟨(txS u).toArray⟩ := ⟨_, rfl⟩
              have hPs : P.size ≤ 400000 := by rw [hP, ByteArray.size_append, mkS (linesL 10 txS (x.body.take j))]; have := HLB.out; have := HG2.out.1; omega
              have hQs : Q.size ≤ 40000 := by rw [hQ, mkS]; omega
              have EV : Hid (P ++ Q ++ ⟨#[10]⟩ = G2 ++ ⟨(linesL 10 txS (x.body.take (j + 1))).toArray⟩) := Lib.hid (by
                refine baEq ?_
                rw [ES, hP, hQ]
                simp only [baApp, mkL]; simp)
              rw [← hP]
              simp only [← hQ] at PC
              have HIN := Lib.hid hin
              unfold S.v at PC
              have um : ¬ 9223372036854775807 < P.size + Q.size := by omega
              have um2 : ¬ 9223372036854775807 < P.size + Q.size + 1 := by omega
              clear hP hQ hxj hin hq hq2 hq3 HLJ ES hPs hQs
              obtain ⟨uq0, huq0⟩ : ∃ q, q = u.kind := ⟨_, rfl⟩
              obtain ⟨uq1, huq1⟩ : ∃ q, q = u.name := ⟨_, rfl⟩
              obtain ⟨uq2, huq2⟩ : ∃ q, q = u.typed := ⟨_, rfl⟩
              obtain ⟨uq3, huq3⟩ : ∃ q, q = u.t.k := ⟨_, rfl⟩
              obtain ⟨uq4, huq4⟩ : ∃ q, q = u.t.b := ⟨_, rfl⟩
              obtain ⟨uq5, huq5⟩ : ∃ q, q = u.t.n := ⟨_, rfl⟩
              obtain ⟨uq6, huq6⟩ : ∃ q, q = u.e.op := ⟨_, rfl⟩
              obtain ⟨uq7, huq7⟩ : ∃ q, q = u.e.val := ⟨_, rfl⟩
              obtain ⟨uq8, huq8⟩ : ∃ q, q = u.e.name := ⟨_, rfl⟩
              obtain ⟨uq9, huq9⟩ : ∃ q, q = u.e.a := ⟨_, rfl⟩
              obtain ⟨uq10, huq10⟩ : ∃ q, q = u.e.args.length := ⟨_, rfl⟩
              obtain ⟨uq11, huq11⟩ : ∃ q, q = u.e.cap := ⟨_, rfl⟩
              obtain ⟨uq12, huq12⟩ : ∃ q, q = u.lo := ⟨_, rfl⟩
              obtain ⟨uq13, huq13⟩ : ∃ q, q = u.hi := ⟨_, rfl⟩
              obtain ⟨uq14, huq14⟩ : ∃ q, q = u.a := ⟨_, rfl⟩
              obtain ⟨uq15, huq15⟩ : ∃ q, q = u.body.length := ⟨_, rfl⟩
              obtain ⟨uq16, huq16⟩ : ∃ q, q = u.cap := ⟨_, rfl⟩
              simp only [← huq0, ← huq1, ← huq2, ← huq3, ← huq4, ← huq5, ← huq6, ← huq7, ← huq8, ← huq9, ← huq10, ← huq11, ← huq12, ← huq13, ← huq14, ← huq15, ← huq16] at k0 k1 k2 k3 k4 k5 k6 k7 k8 k9 k10 k11 k12 PC
              clear huq0 huq1 huq2 huq3 huq4 huq5 huq6 huq7 huq8 huq9 huq10 huq11 huq12 huq13 huq14 huq15 huq16
              replace PC := Lib.hid PC
              go_wp2_with fail
              refine (PC.out _ (HTB.out.ext (HX4.out.trans HX.out)) HIN.out).mono ?_; rintro e w2 ⟨rfl, x2⟩
              have X2 := Lib.hid (HX.out.trans x2)
              clear x2 k0 k1 k2 k3 k4 k5 k6 k7 k8 k9 k10 k11 k12 c2
              go_wp2_with fail
              go_roundw
              case rel => exact ⟨j + 1, by go_num, by rw [← HNB.out]; omega, by rw [EV.out], X2.out⟩
              case measure => simp [intOf]; omega
            · obtain rfl : xq7 = j := by omega
              have ET : Hid (x.body.take xq7 = x.body) := Lib.hid (List.take_of_length_le (by rw [HNB.out]; exact Nat.le_refl _))
              have EF : Hid (G2 ++ ⟨(linesL 10 txS (x.body.take xq7)).toArray⟩ = RR) := Lib.hid (by rw [ET.out, HRR.out]; exact HG2.out.2)
              rw [EF.out]
              have X := HX4.out.trans HX.out
              go_wp2_with fail
              go_ret
              exact ⟨rfl, X⟩
end Go.Proofs.YtcheigpejbmaoaaDoor
