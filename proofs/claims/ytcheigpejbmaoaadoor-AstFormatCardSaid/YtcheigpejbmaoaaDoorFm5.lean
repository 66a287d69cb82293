/- Format: the package. Printed by gen/fm3.py. -/
import Derived.Test.YtcheigpejbmaoaaDoorFm4
import Derived.Test.YtcheigpejbmaoaaDoorTx2
import Derived.Test.YtcheigpejbmaoaaDoorAsA
namespace Go.Proofs.YtcheigpejbmaoaaDoor
open Go.RowKit
/-- What Format returns. -/
def fmR (g : G) : Value := if valG g = 0 then (if (txG g).length ≤ 16384 then .tuple #[.string ⟨(txG g).toArray⟩, .int .i64 0] else .tuple #[.string ⟨#[]⟩, .int .i64 3]) else .tuple #[.string ⟨#[]⟩, .int .i64 (valG g)]
theorem valG_ok {g : G} (h : valG g = 0) : okG g = true := by
  unfold valG at h
  by_cases q : okG g = true
  · exact q
  · rw [if_neg q] at h; exact absurd h (by decide)
set_option maxRecDepth 100000 in
set_option maxHeartbeats 2000000 in
theorem Format_c (x : G) (hwt : wtG x ≤ 600) (w : World) (ht : Tab w) (hx : InG w x) : Calls Tryd.prog 17 #[x.v] w fun r w' => r = .returned (fmR x) ∧ Ext w w' := by
  have VC := fun w' h => Valid_c x (by omega) w' h
  obtain ⟨V, hV⟩ : ∃ V, V = valG x := ⟨_, rfl⟩
  simp only [← hV] at VC
  obtain ⟨RR, hR⟩ : ∃ R, R = fmR x := ⟨_, rfl⟩
  rw [← hR]
  have HR := Lib.hid hR
  clear hR
  have HXX := Lib.hid hx
  have HTT0 := Lib.hid ht
  by_cases h0 : V = 0
  · have HV : Hid (valG x = 0) := Lib.hid (hV ▸ h0)
    subst h0
    have HLEN : Hid ((txG x).length ≤ 140737488355328) := Lib.hid (by have := len_txG (valG_ok HV.out) hx; omega)
    have hok := valG_ok HV.out
    unfold okG at hok
    simp only [Bool.and_eq_true] at hok
    obtain ⟨okf, okd, okb⟩ := hok
    obtain ⟨T, hT⟩ : ∃ T, T = txG x := ⟨_, rfl⟩
    rw [← hT] at HLEN
    have HT : Hid (T = linesL 10 txF x.funcs ++ (linesL 10 txD x.decls ++ linesL 10 txS x.body)) := Lib.hid hT
    have HTX : Hid (txG x = T) := Lib.hid hT.symm
    have hcap : x.funcs.length ≤ 9223372036854775807 := Nat.le_trans hx.fs.2 (by decide)
    have hcap2 : x.decls.length ≤ 9223372036854775807 := Nat.le_trans hx.ds.2 (by decide)
    have hcap3 : x.body.length ≤ 9223372036854775807 := Nat.le_trans hx.body.2 (by decide)
    obtain ⟨W1, hW1⟩ : ∃ q, q = w.alloc (.cells #[.slice x.fa x.funcs.length x.fc, .slice x.da x.decls.length x.dc, .slice x.ba x.body.length x.bc] 26) := ⟨_, rfl⟩
    have XB : Hid (Ext w W1) := Lib.hid (by rw [hW1]; exact (Ext.refl _).alloc _)
    have HTB := Lib.hid (ht.ext XB.out)
    have HF := (hx.to XB.out).fs
    have HD := (hx.to XB.out).ds
    have HL := (hx.to XB.out).body
    have c0 : W1.cell? ⟨w.heap.size, 0, none⟩ = some (.slice x.fa x.funcs.length x.fc) := by rw [hW1]; simp
    have c1 : W1.cell? ⟨w.heap.size, 1, none⟩ = some (.slice x.da x.decls.length x.dc) := by rw [hW1]; simp
    have c2 : W1.cell? ⟨w.heap.size, 2, none⟩ = some (.slice x.ba x.body.length x.bc) := by rw [hW1]; simp
    unfold G.v at *
    clear hV hT hx ht hwt
    obtain ⟨xq0, hxq0⟩ : ∃ q, q = x.fa := ⟨_, rfl⟩
    obtain ⟨xq1, hxq1⟩ : ∃ q, q = x.funcs.length := ⟨_, rfl⟩
    obtain ⟨xq2, hxq2⟩ : ∃ q, q = x.fc := ⟨_, rfl⟩
    obtain ⟨xq3, hxq3⟩ : ∃ q, q = x.da := ⟨_, rfl⟩
    obtain ⟨xq4, hxq4⟩ : ∃ q, q = x.decls.length := ⟨_, rfl⟩
    obtain ⟨xq5, hxq5⟩ : ∃ q, q = x.dc := ⟨_, rfl⟩
    obtain ⟨xq6, hxq6⟩ : ∃ q, q = x.ba := ⟨_, rfl⟩
    obtain ⟨xq7, hxq7⟩ : ∃ q, q = x.body.length := ⟨_, rfl⟩
    obtain ⟨xq8, hxq8⟩ : ∃ q, q = x.bc := ⟨_, rfl⟩
    simp only [← hxq0, ← hxq1, ← hxq2, ← hxq3, ← hxq4, ← hxq5, ← hxq6, ← hxq7, ← hxq8] at VC HF HD HL c0 c1 c2 hW1 hcap hcap2 hcap3 ⊢
    have HNF := Lib.hid hxq1
    have HND := Lib.hid hxq4
    have HNB := Lib.hid hxq7
    clear hxq0 hxq1 hxq2 hxq3 hxq4 hxq5 hxq6 hxq7 hxq8
    replace VC := Lib.hid VC
    replace HF := Lib.hid HF
    replace HD := Lib.hid HD
    replace HL := Lib.hid HL
    have HW1 := Lib.hid hW1
    have C0 := Lib.hid c0
    have C1 := Lib.hid c1
    have C2 := Lib.hid c2
    clear hW1 c0 c1 c2
    go_enter Tryd.func17, Tryd.ntmps17
    go_wp2_with fail
    rw [← HW1.out]
    refine (VC.out _ (HXX.out.to XB.out)).mono ?_; rintro e1 w2 ⟨rfl, x2⟩
    have c0 := x2.cell C0.out
    have c1 := x2.cell C1.out
    have c2 := x2.cell C2.out
    obtain ⟨b, hb0⟩ : ∃ b, b = w2.heap.size := ⟨_, rfl⟩
    obtain ⟨wn, hwn⟩ : ∃ q, q = w2.alloc (.cells #[.pointer none, .slice none 0 0] 78) := ⟨_, rfl⟩
    have hb : wn.heap[b]? = some (.cells #[.pointer none, .slice none 0 0] 78 (0, 0)) := by rw [hwn, hb0]; exact heap_alloc_new w2 _
    have HX : Hid (Ext W1 wn) := Lib.hid (by rw [hwn]; exact x2.alloc _)
    obtain ⟨vn, hvn⟩ : ∃ q : Value, q = .slice none 0 0 := ⟨_, rfl⟩
    have HB : Hid (BX b [] vn wn) := Lib.hid (by rw [hvn]; exact BX.new hb)
    have HP : Hid (Past W1.heap.size b vn) := Lib.hid ⟨by rw [hb0]; exact x2.size, fun k hk => by rw [hvn] at hk; simp [Value.ownBlock] at hk⟩
    have xa : Ext w2 wn := by rw [hwn]; exact (Ext.refl _).alloc _
    replace c0 := xa.cell c0
    replace c1 := xa.cell c1
    replace c2 := xa.cell c2
    have HWN := Lib.hid hwn
    have HB0 := Lib.hid hb0
    clear hb x2 hwn hb0 hvn xa
    obtain ⟨l1, hl1⟩ : ∃ q : List UInt8, q = [] := ⟨_, rfl⟩
    rw [← hl1] at HB
    have L0 := Lib.hid hl1
    have HLF : Hid (l1.length + (linesL 10 txF x.funcs).length ≤ 140737488355328) := Lib.hid (by have q := HLEN.out; rw [HT.out] at q; rw [hl1]; simp only [List.length_append, List.length_nil] at q ⊢; omega)
    clear hl1
    rw [HWN.out] at c0 c1 c2
    go_wp2_with fail
    rw [← HWN.out] at c0 c1 c2 ⊢
    rw [← HB0.out]
    obtain ⟨w1, hw1⟩ : ∃ q, q = wn := ⟨_, rfl⟩
    obtain ⟨v1, hv1⟩ : ∃ q, q = vn := ⟨_, rfl⟩
    rw [← hw1, ← hv1] at HB
    rw [← hv1] at HP
    rw [← hw1] at HX c0 c1 c2 ⊢
    have HB1 := Lib.hid HB.out
    have HP1 := Lib.hid HP.out
    have HX1 := Lib.hid HX.out
    clear hw1 hv1 HB HP HX
    go_loopw [20] (LnRel 10 txF x.funcs b v1 l1 w1) (fun s _ => xq1 - (intOf s).toNat)
    case atStart => exact ⟨0, v1, rfl, Nat.zero_le _, by simpa [linesL] using Aft.ofExt HB1.out (Ext.refl _)⟩
    case round =>
      obtain ⟨j, v1, rfl, hj, haf⟩ := hrel
      rw [← HNF.out] at hj
      have HA := Lib.hid haf
      clear haf
      have HE1 := Lib.hid (HA.out.ext HX1.out HP1.out)
      by_cases hlt : j < xq1
      · clear c0 c1 c2
        obtain ⟨u, hxj⟩ := getE (l := x.funcs) (i := j) (by rw [← HNF.out]; exact hlt)
        obtain ⟨⟨ab, o, rfl, k0, k1, k2, k3, k4, k5, k6, k7, k8, k9⟩, hin⟩ := (HF.out.to HE1.out).at hxj
        have HIN0 := Lib.hid (HF.out.at hxj).2
        have ES := Lib.hid (linesL_take 10 txF hxj)
        have HLJ := linesL_le 10 txF x.funcs (j + 1)
        have PC := fun l v w h1 h2 h3 h4 h5 => writeFunc_c u (all_at okf hxj) W1 b l v w h1 HTB.out h2 h3 h4 h5
        unfold F.v at PC
        obtain ⟨P, hP⟩ : ∃ q, q = linesL 10 txF (x.funcs.take j) := ⟨_, rfl⟩
        obtain ⟨Q, hQ⟩ : ∃ q, q = txF u := ⟨_, rfl⟩
        rw [← hP] at ES HA
        rw [ES.out] at HLJ
        rw [← hQ] at ES HLJ
        simp only [← hQ] at PC
        have HLQ : Hid (l1.length + (P.length + (Q.length + 1)) ≤ 140737488355328) := Lib.hid (by have := HLF.out; simp only [List.length_append, List.length_cons, List.length_nil] at HLJ; omega)
        clear hP hQ HLJ hxj hin
        obtain ⟨uq0, huq0⟩ : ∃ q, q = u.name := ⟨_, rfl⟩
        obtain ⟨uq1, huq1⟩ : ∃ q, q = u.pa := ⟨_, rfl⟩
        obtain ⟨uq2, huq2⟩ : ∃ q, q = u.params.length := ⟨_, rfl⟩
        obtain ⟨uq3, huq3⟩ : ∃ q, q = u.pc := ⟨_, rfl⟩
        obtain ⟨uq4, huq4⟩ : ∃ q, q = u.t.k := ⟨_, rfl⟩
        obtain ⟨uq5, huq5⟩ : ∃ q, q = u.t.b := ⟨_, rfl⟩
        obtain ⟨uq6, huq6⟩ : ∃ q, q = u.t.n := ⟨_, rfl⟩
        obtain ⟨uq7, huq7⟩ : ∃ q, q = u.ba := ⟨_, rfl⟩
        obtain ⟨uq8, huq8⟩ : ∃ q, q = u.body.length := ⟨_, rfl⟩
        obtain ⟨uq9, huq9⟩ : ∃ q, q = u.bc := ⟨_, rfl⟩
        obtain ⟨uq10, huq10⟩ : ∃ q, q = u.e.op := ⟨_, rfl⟩
        obtain ⟨uq11, huq11⟩ : ∃ q, q = u.e.val := ⟨_, rfl⟩
        obtain ⟨uq12, huq12⟩ : ∃ q, q = u.e.name := ⟨_, rfl⟩
        obtain ⟨uq13, huq13⟩ : ∃ q, q = u.e.a := ⟨_, rfl⟩
        obtain ⟨uq14, huq14⟩ : ∃ q, q = u.e.args.length := ⟨_, rfl⟩
        obtain ⟨uq15, huq15⟩ : ∃ q, q = u.e.cap := ⟨_, rfl⟩
        simp only [← huq0, ← huq1, ← huq2, ← huq3, ← huq4, ← huq5, ← huq6, ← huq7, ← huq8, ← huq9, ← huq10, ← huq11, ← huq12, ← huq13, ← huq14, ← huq15] at k0 k1 k2 k3 k4 k5 k6 k7 k8 k9 PC
        clear huq0 huq1 huq2 huq3 huq4 huq5 huq6 huq7 huq8 huq9 huq10 huq11 huq12 huq13 huq14 huq15
        have HPC := Lib.hid PC
        clear PC
        go_wp2_with fail
        have HA2 := Lib.hid (HA.out.grow ((Ext.refl _).alloc (.cells #[.string uq0, .slice uq1 uq2 uq3, .int .i64 uq4, .int .i64 uq5, .int .i64 uq6, .slice uq7 uq8 uq9, .int .i64 uq10, .int .u64 (uq11 : Int), .string uq12, .slice uq13 uq14 uq15] 50)))
        refine (HPC.out _ _ _ HIN0.out (HE1.out.trans ((Ext.refl _).alloc _)) HA2.out.bx (HA2.out.past HX1.out.size HP1.out) (by have q := HLQ.out; simp only [List.length_append] at q ⊢; omega)).mono ?_; rintro e1 wn ⟨rfl, vn, ha⟩
        have HA3 := Lib.hid (HA2.out.trans ha)
        clear ha k0 k1 k2 k3 k4 k5 k6 k7 k8 k9
        go_wp2_with fail
        refine (WriteString_c b _ _ ⟨#[10]⟩ _ HA3.out.bx (by have q := HLQ.out; rw [lenS]; simp only [List.length_append, List.length_cons, List.length_nil] at q ⊢; omega)).mono ?_; rintro e2 wn ⟨rfl, vn, ha⟩
        have HA4 := Lib.hid (HA3.out.trans ha)
        clear ha
        go_wp2_with fail
        go_roundw
        case rel =>
          refine ⟨j + 1, vn, by go_num, by rw [← HNF.out]; omega, ?_⟩
          rw [ES.out]
          have q := HA4.out
          simp only [List.append_assoc] at q ⊢
          exact q
        case measure => simp [intOf]; omega
      · obtain rfl : xq1 = j := by omega
        have ET : Hid (x.funcs.take xq1 = x.funcs) := Lib.hid (List.take_of_length_le (by rw [HNF.out]; exact Nat.le_refl _))
        rw [ET.out] at HA
        replace c0 := HE1.out.cell C0.out
        replace c1 := HE1.out.cell C1.out
        replace c2 := HE1.out.cell C2.out
        have HB := Lib.hid HA.out.bx
        have HP := Lib.hid (HA.out.past HX1.out.size HP1.out)
        have HX := HE1
        clear HA HE1 HB1 HP1 HX1 ET
        obtain ⟨l2, hl2⟩ : ∃ q, q = l1 ++ linesL 10 txF x.funcs := ⟨_, rfl⟩
        have L1 : Hid (l2 = [] ++ linesL 10 txF x.funcs) := Lib.hid (by rw [hl2, L0.out])
        rw [← hl2] at HB
        have HLD : Hid (l2.length + (linesL 10 txD x.decls).length ≤ 140737488355328) := Lib.hid (by have q := HLEN.out; rw [HT.out] at q; rw [L1.out]; simp only [List.length_append, List.length_nil] at q ⊢; omega)
        clear hl2
        obtain ⟨wn, hwn⟩ : ∃ q, q = wr := ⟨_, rfl⟩
        obtain ⟨vn, hvn⟩ : ∃ q, q = v1 := ⟨_, rfl⟩
        rw [← hwn, ← hvn] at HB
        rw [← hvn] at HP
        rw [← hwn] at HX c0 c1 c2 ⊢
        clear hwn hvn
        go_wp2_with fail
        obtain ⟨w2, hw2⟩ : ∃ q, q = wn := ⟨_, rfl⟩
        obtain ⟨v2, hv2⟩ : ∃ q, q = vn := ⟨_, rfl⟩
        rw [← hw2, ← hv2] at HB
        rw [← hv2] at HP
        rw [← hw2] at HX c0 c1 c2 ⊢
        have HB2 := Lib.hid HB.out
        have HP2 := Lib.hid HP.out
        have HX2 := Lib.hid HX.out
        clear hw2 hv2 HB HP HX
        go_loopw [31] (LnRel 10 txD x.decls b v2 l2 w2) (fun s _ => xq4 - (intOf s).toNat)
        case atStart => exact ⟨0, v2, rfl, Nat.zero_le _, by simpa [linesL] using Aft.ofExt HB2.out (Ext.refl _)⟩
        case round =>
          obtain ⟨j, v1, rfl, hj, haf⟩ := hrel
          rw [← HND.out] at hj
          have HA := Lib.hid haf
          clear haf
          have HE1 := Lib.hid (HA.out.ext HX2.out HP2.out)
          by_cases hlt : j < xq4
          · clear c0 c1 c2
            obtain ⟨u, hxj⟩ := getE (l := x.decls) (i := j) (by rw [← HND.out]; exact hlt)
            obtain ⟨⟨ab, o, rfl, k0, k1, k2, k3, k4⟩, hin⟩ := (HD.out.to HE1.out).at hxj
            have HIN0 := Lib.hid (HD.out.at hxj).2
            have ES := Lib.hid (linesL_take 10 txD hxj)
            have HLJ := linesL_le 10 txD x.decls (j + 1)
            have okp := all_at okd hxj
            unfold okD at okp
            rw [Bool.and_eq_true] at okp
            have TC := fun w' h => typeText_c u.t.k u.t.b u.t.n w' h okp.2
            obtain ⟨Y, hY⟩ : ∃ q : ByteArray, q = ⟨(tyTx u.t.k u.t.b u.t.n).toArray⟩ := ⟨_, rfl⟩
            have hYs : Y.size ≤ 47 := by rw [hY, mkSize]; exact tyTx_le okp.2
            have HY : tyTx u.t.k u.t.b u.t.n = Y.data.toList := by rw [hY]
            simp only [← hY] at TC
            obtain ⟨M, hM⟩ : ∃ q : ByteArray, q = u.name ++ ⟨#[58, 32]⟩ ++ Y ++ ⟨#[59, 10]⟩ := ⟨_, rfl⟩
            have hnm := nameOk_le okp.1
            have um : ¬ 9223372036854775807 < u.name.size + 2 := by omega
            have um2 : ¬ 9223372036854775807 < u.name.size + 2 + Y.size := by omega
            have um3 : ¬ 9223372036854775807 < u.name.size + 2 + Y.size + 2 := by omega
            have HQ : txD u ++ [10] = (if u.pub = true then (⟨#[112, 117, 98, 108, 105, 99, 32]⟩ : ByteArray).data.toList else (⟨#[115, 101, 99, 114, 101, 116, 32]⟩ : ByteArray).data.toList) ++ M.data.toList := by
              unfold txD; rw [hM, HY]; simp only [baApp]; cases u.pub <;> simp
            obtain ⟨P, hP⟩ : ∃ q, q = linesL 10 txD (x.decls.take j) := ⟨_, rfl⟩
            obtain ⟨Q, hQ⟩ : ∃ q, q = txD u := ⟨_, rfl⟩
            rw [← hP] at ES HA
            rw [ES.out] at HLJ
            rw [← hQ] at ES HLJ
            simp only [← hQ] at HQ
            have HLQ : Hid (l2.length + (P.length + (Q.length + 1)) ≤ 140737488355328) := Lib.hid (by have := HLD.out; simp only [List.length_append, List.length_cons, List.length_nil] at HLJ; omega)
            clear hP hQ HLJ hxj hin
            clear okp hY hYs hnm HY
            obtain ⟨uq0, huq0⟩ : ∃ q, q = u.pub := ⟨_, rfl⟩
            obtain ⟨uq1, huq1⟩ : ∃ q, q = u.name := ⟨_, rfl⟩
            obtain ⟨uq2, huq2⟩ : ∃ q, q = u.t.k := ⟨_, rfl⟩
            obtain ⟨uq3, huq3⟩ : ∃ q, q = u.t.b := ⟨_, rfl⟩
            obtain ⟨uq4, huq4⟩ : ∃ q, q = u.t.n := ⟨_, rfl⟩
            simp only [← huq0, ← huq1, ← huq2, ← huq3, ← huq4] at k0 k1 k2 k3 k4 TC hM um um2 um3 HQ
            clear huq0 huq1 huq2 huq3 huq4
            replace TC := Lib.hid TC
            replace HQ := Lib.hid HQ
            have HMM := Lib.hid hM
            clear hM
            obtain ⟨wl, hwl⟩ : ∃ q, q = wr.alloc (.cells #[.bool uq0, .string uq1, .int .i64 uq2, .int .i64 uq3, .int .i64 uq4] 55) := ⟨_, rfl⟩
            have XL : Hid (Ext wr wl) := Lib.hid (by rw [hwl]; exact (Ext.refl _).alloc _)
            have d0 : wl.cell? ⟨wr.heap.size, 0, none⟩ = some (.bool uq0) := by rw [hwl]; simp
            have d1 : wl.cell? ⟨wr.heap.size, 1, none⟩ = some (.string uq1) := by rw [hwl]; simp
            have d2 : wl.cell? ⟨wr.heap.size, 2, none⟩ = some (.int .i64 uq2) := by rw [hwl]; simp
            have d3 : wl.cell? ⟨wr.heap.size, 3, none⟩ = some (.int .i64 uq3) := by rw [hwl]; simp
            have d4 : wl.cell? ⟨wr.heap.size, 4, none⟩ = some (.int .i64 uq4) := by rw [hwl]; simp
            have DD := Lib.hid (And.intro d0 (And.intro d1 (And.intro d2 (And.intro d3 d4))))
            have HWL := Lib.hid hwl
            have NB2 : Hid (wr.heap.size ≠ b) := Lib.hid (by have := HA.out.bx.lt; omega)
            have NV2 : Hid (v1.ownBlock ≠ some wr.heap.size) := Lib.hid (fun q => by have := HA.out.bx.own q; omega)
            clear d0 d1 d2 d3 d4 hwl
            cases uq0
            · have HQ : Hid (Q ++ [10] = (⟨#[115, 101, 99, 114, 101, 116, 32]⟩ : ByteArray).data.toList ++ M.data.toList) := Lib.hid HQ.out
              have HQL : Hid (Q.length + 1 = 7 + M.size) := Lib.hid (by have e := congrArg List.length HQ.out; rw [List.length_append, List.length_append, ← lenS M] at e; exact e)
              go_wp2_with fail
              rw [← HWL.out]
              have HA2 := Lib.hid (HA.out.grow XL.out)
              refine (WriteString_c b _ _ ⟨#[115, 101, 99, 114, 101, 116, 32]⟩ _ HA2.out.bx (by have q := HLQ.out; have q2 := HQL.out; have z : (⟨#[115, 101, 99, 114, 101, 116, 32]⟩ : ByteArray).size = 7 := rfl; rw [z, List.length_append]; omega)).mono ?_; rintro e1 wn ⟨rfl, vn, ha⟩
              have d0 := ha.cell DD.out.1 NB2.out NV2.out
              have d1 := ha.cell DD.out.2.1 NB2.out NV2.out
              have d2 := ha.cell DD.out.2.2.1 NB2.out NV2.out
              have d3 := ha.cell DD.out.2.2.2.1 NB2.out NV2.out
              have d4 := ha.cell DD.out.2.2.2.2 NB2.out NV2.out
              have HA3 := Lib.hid (HA2.out.trans ha)
              clear ha
              go_wp2_with fail
              refine region_factsL [[], [(0, 39)], [(1, 40)], [], [(3, 42)], [(4, 43)], [(2, 41), (5, 44)], [(6, 45)]] [some 39, some 40, some 41, some 42, some 43, some 44, some 45, some 46] [false, false, false, false, false, true, false, false, false, true, false, false, false, false, false, false, false, false, false, false, false, false, false, false, false, false, false, false, false, false, false, false, false, false, false, false, false, false, false, false, false, false, false, false, false, false, false, false, false, false, false, false, false, false, false, false, false, false, false, false, false, false, false, false] (by kernel_rfl) (by kernel_rfl) (by kernel_rfl) ?_
              dsimp only [maskL]
              with_reducible apply FromM.eq
              · intro w' hx; (try dsimp only [List.nil_append, List.cons_append, DepsL, DepsL1, setO, setN, favs, opsOf]); go_wp2; exact OpPostE.some _ rfl rfl (Ext.refl _) rfl
              with_reducible apply FromM.eq
              · intro w' hx; have d0x := hx.cell d0; have d1x := hx.cell d1; have d2x := hx.cell d2; have d3x := hx.cell d3; have d4x := hx.cell d4; (try dsimp only [List.nil_append, List.cons_append, DepsL, DepsL1, setO, setN, favs, opsOf]); go_wp2; exact OpPostE.some _ rfl rfl (Ext.refl _) rfl
              with_reducible apply FromM.eq
              · intro w' hx; (try dsimp only [List.nil_append, List.cons_append, DepsL, DepsL1, setO, setN, favs, opsOf]); go_wp2; exact OpPostE.some _ rfl rfl (Ext.refl _) rfl
              with_reducible apply FromM.eq
              · intro w' hx; (try dsimp only [List.nil_append, List.cons_append, DepsL, DepsL1, setO, setN, favs, opsOf]); go_wp2; exact OpPostE.some _ rfl rfl (Ext.refl _) rfl
              with_reducible apply FromM.eq
              · intro w' hx; have d0x := hx.cell d0; have d1x := hx.cell d1; have d2x := hx.cell d2; have d3x := hx.cell d3; have d4x := hx.cell d4; (try dsimp only [List.nil_append, List.cons_append, DepsL, DepsL1, setO, setN, favs, opsOf]); go_wp2; exact OpPostE.some _ rfl rfl (Ext.refl _) rfl
              with_reducible apply FromM.eq
              · intro w' hx; (try dsimp only [List.nil_append, List.cons_append, DepsL, DepsL1, setO, setN, favs, opsOf]); refine op_call 45 [.tmp 43] _ _ _ rfl rfl rfl rfl rfl rfl (fun _ _ => Tryd.call45 _ _) (TC.out _ (HTB.out.ext ((HA3.out.ext HX2.out HP2.out).trans hx))) (fun e w2 h_ => ?_); obtain ⟨rfl, hb2⟩ := h_; exact ⟨_, rfl, hb2, rfl⟩
              with_reducible apply FromM.eq
              · intro w' hx; (try dsimp only [List.nil_append, List.cons_append, DepsL, DepsL1, setO, setN, favs, opsOf]); go_wp2; exact OpPostE.some _ rfl rfl (Ext.refl _) rfl
              with_reducible apply FromM.eq
              · intro w' hx; (try dsimp only [List.nil_append, List.cons_append, DepsL, DepsL1, setO, setN, favs, opsOf]); go_wp2; exact OpPostE.some _ rfl rfl (Ext.refl _) rfl
              with_reducible refine FromM.fin ?_
              intro w' hx
              (try dsimp only [List.nil_append, List.cons_append, EndL, DepsL1, setO, setN])
              have HA3 := Lib.hid (HA3.out.grow hx)
              clear hx d0 d1 d2 d3 d4 um um2 um3 k0 k1 k2 k3 k4
              go_wp2_with fail
              rw [← HMM.out]
              refine (WriteString_c b _ _ M _ HA3.out.bx (by have q := HLQ.out; have q2 := HQL.out; rw [List.length_append, List.length_append]; exact (show l2.length + P.length + 7 + M.size ≤ 140737488355328 by omega))).mono ?_; rintro e3 wn ⟨rfl, vn, ha⟩
              have HA4 := Lib.hid (HA3.out.trans ha)
              clear ha
              go_wp2_with fail
              go_roundw
              case rel =>
                refine ⟨j + 1, vn, by go_num, by rw [← HND.out]; omega, ?_⟩
                rw [ES.out, HQ.out]
                have q := HA4.out
                simp only [List.append_assoc] at q ⊢
                exact q
              case measure => simp [intOf]; omega
            · have HQ : Hid (Q ++ [10] = (⟨#[112, 117, 98, 108, 105, 99, 32]⟩ : ByteArray).data.toList ++ M.data.toList) := Lib.hid HQ.out
              have HQL : Hid (Q.length + 1 = 7 + M.size) := Lib.hid (by have e := congrArg List.length HQ.out; rw [List.length_append, List.length_append, ← lenS M] at e; exact e)
              go_wp2_with fail
              rw [← HWL.out]
              have HA2 := Lib.hid (HA.out.grow XL.out)
              refine (WriteString_c b _ _ ⟨#[112, 117, 98, 108, 105, 99, 32]⟩ _ HA2.out.bx (by have q := HLQ.out; have q2 := HQL.out; have z : (⟨#[112, 117, 98, 108, 105, 99, 32]⟩ : ByteArray).size = 7 := rfl; rw [z, List.length_append]; omega)).mono ?_; rintro e1 wn ⟨rfl, vn, ha⟩
              have d0 := ha.cell DD.out.1 NB2.out NV2.out
              have d1 := ha.cell DD.out.2.1 NB2.out NV2.out
              have d2 := ha.cell DD.out.2.2.1 NB2.out NV2.out
              have d3 := ha.cell DD.out.2.2.2.1 NB2.out NV2.out
              have d4 := ha.cell DD.out.2.2.2.2 NB2.out NV2.out
              have HA3 := Lib.hid (HA2.out.trans ha)
              clear ha
              go_wp2_with fail
              refine region_factsL [[], [(0, 39)], [(1, 40)], [], [(3, 42)], [(4, 43)], [(2, 41), (5, 44)], [(6, 45)]] [some 39, some 40, some 41, some 42, some 43, some 44, some 45, some 46] [false, false, false, false, false, true, false, false, false, true, false, false, false, false, false, false, false, false, false, false, false, false, false, false, false, false, false, false, false, false, false, false, false, false, false, false, false, false, false, false, false, false, false, false, false, false, false, false, false, false, false, false, false, false, false, false, false, false, false, false, false, false, false, false] (by kernel_rfl) (by kernel_rfl) (by kernel_rfl) ?_
              dsimp only [maskL]
              with_reducible apply FromM.eq
              · intro w' hx; (try dsimp only [List.nil_append, List.cons_append, DepsL, DepsL1, setO, setN, favs, opsOf]); go_wp2; exact OpPostE.some _ rfl rfl (Ext.refl _) rfl
              with_reducible apply FromM.eq
              · intro w' hx; have d0x := hx.cell d0; have d1x := hx.cell d1; have d2x := hx.cell d2; have d3x := hx.cell d3; have d4x := hx.cell d4; (try dsimp only [List.nil_append, List.cons_append, DepsL, DepsL1, setO, setN, favs, opsOf]); go_wp2; exact OpPostE.some _ rfl rfl (Ext.refl _) rfl
              with_reducible apply FromM.eq
              · intro w' hx; (try dsimp only [List.nil_append, List.cons_append, DepsL, DepsL1, setO, setN, favs, opsOf]); go_wp2; exact OpPostE.some _ rfl rfl (Ext.refl _) rfl
              with_reducible apply FromM.eq
              · intro w' hx; (try dsimp only [List.nil_append, List.cons_append, DepsL, DepsL1, setO, setN, favs, opsOf]); go_wp2; exact OpPostE.some _ rfl rfl (Ext.refl _) rfl
              with_reducible apply FromM.eq
              · intro w' hx; have d0x := hx.cell d0; have d1x := hx.cell d1; have d2x := hx.cell d2; have d3x := hx.cell d3; have d4x := hx.cell d4; (try dsimp only [List.nil_append, List.cons_append, DepsL, DepsL1, setO, setN, favs, opsOf]); go_wp2; exact OpPostE.some _ rfl rfl (Ext.refl _) rfl
              with_reducible apply FromM.eq
              · intro w' hx; (try dsimp only [List.nil_append, List.cons_append, DepsL, DepsL1, setO, setN, favs, opsOf]); refine op_call 45 [.tmp 43] _ _ _ rfl rfl rfl rfl rfl rfl (fun _ _ => Tryd.call45 _ _) (TC.out _ (HTB.out.ext ((HA3.out.ext HX2.out HP2.out).trans hx))) (fun e w2 h_ => ?_); obtain ⟨rfl, hb2⟩ := h_; exact ⟨_, rfl, hb2, rfl⟩
              with_reducible apply FromM.eq
              · intro w' hx; (try dsimp only [List.nil_append, List.cons_append, DepsL, DepsL1, setO, setN, favs, opsOf]); go_wp2; exact OpPostE.some _ rfl rfl (Ext.refl _) rfl
              with_reducible apply FromM.eq
              · intro w' hx; (try dsimp only [List.nil_append, List.cons_append, DepsL, DepsL1, setO, setN, favs, opsOf]); go_wp2; exact OpPostE.some _ rfl rfl (Ext.refl _) rfl
              with_reducible refine FromM.fin ?_
              intro w' hx
              (try dsimp only [List.nil_append, List.cons_append, EndL, DepsL1, setO, setN])
              have HA3 := Lib.hid (HA3.out.grow hx)
              clear hx d0 d1 d2 d3 d4 um um2 um3 k0 k1 k2 k3 k4
              go_wp2_with fail
              rw [← HMM.out]
              refine (WriteString_c b _ _ M _ HA3.out.bx (by have q := HLQ.out; have q2 := HQL.out; rw [List.length_append, List.length_append]; exact (show l2.length + P.length + 7 + M.size ≤ 140737488355328 by omega))).mono ?_; rintro e3 wn ⟨rfl, vn, ha⟩
              have HA4 := Lib.hid (HA3.out.trans ha)
              clear ha
              go_wp2_with fail
              go_roundw
              case rel =>
                refine ⟨j + 1, vn, by go_num, by rw [← HND.out]; omega, ?_⟩
                rw [ES.out, HQ.out]
                have q := HA4.out
                simp only [List.append_assoc] at q ⊢
                exact q
              case measure => simp [intOf]; omega
          · obtain rfl : xq4 = j := by omega
            have ET : Hid (x.decls.take xq4 = x.decls) := Lib.hid (List.take_of_length_le (by rw [HND.out]; exact Nat.le_refl _))
            rw [ET.out] at HA
            replace c0 := HE1.out.cell C0.out
            replace c1 := HE1.out.cell C1.out
            replace c2 := HE1.out.cell C2.out
            have HB := Lib.hid HA.out.bx
            have HP := Lib.hid (HA.out.past HX2.out.size HP2.out)
            have HX := HE1
            clear HA HE1 HB2 HP2 HX2 ET
            obtain ⟨l3, hl3⟩ : ∃ q, q = l2 ++ linesL 10 txD x.decls := ⟨_, rfl⟩
            have L2 := Lib.hid hl3
            rw [← hl3] at HB
            have HLB : Hid (l3.length + (linesL 10 txS x.body).length ≤ 140737488355328) := Lib.hid (by have q := HLEN.out; rw [HT.out] at q; rw [hl3, L1.out]; simp only [List.length_append, List.length_nil] at q ⊢; omega)
            clear hl3
            obtain ⟨wn, hwn⟩ : ∃ q, q = wr := ⟨_, rfl⟩
            obtain ⟨vn, hvn⟩ : ∃ q, q = v1 := ⟨_, rfl⟩
            rw [← hwn, ← hvn] at HB
            rw [← hvn] at HP
            rw [← hwn] at HX c0 c1 c2 ⊢
            clear hwn hvn
            go_wp2_with fail
            obtain ⟨w3, hw3⟩ : ∃ q, q = wn := ⟨_, rfl⟩
            obtain ⟨v3, hv3⟩ : ∃ q, q = vn := ⟨_, rfl⟩
            rw [← hw3, ← hv3] at HB
            rw [← hv3] at HP
            rw [← hw3] at HX c0 c1 c2 ⊢
            have HB3 := Lib.hid HB.out
            have HP3 := Lib.hid HP.out
            have HX3 := Lib.hid HX.out
            clear hw3 hv3 HB HP HX
            go_loopw [52] (LnRel 10 txS x.body b v3 l3 w3) (fun s _ => xq7 - (intOf s).toNat)
            case atStart => exact ⟨0, v3, rfl, Nat.zero_le _, by simpa [linesL] using Aft.ofExt HB3.out (Ext.refl _)⟩
            case round =>
              obtain ⟨j, v1, rfl, hj, haf⟩ := hrel
              rw [← HNB.out] at hj
              have HA := Lib.hid haf
              clear haf
              have HE1 := Lib.hid (HA.out.ext HX3.out HP3.out)
              by_cases hlt : j < xq7
              · clear c0 c1 c2
                obtain ⟨u, hxj⟩ := getE (l := x.body) (i := j) (by rw [← HNB.out]; exact hlt)
                obtain ⟨⟨ab, o, rfl, k0, k1, k2, k3, k4, k5, k6, k7, k8, k9, k10, k11, k12⟩, hin⟩ := (HL.out.to HE1.out).at hxj
                have HIN0 := Lib.hid (HL.out.at hxj).2
                have ES := Lib.hid (linesL_take 10 txS hxj)
                have HLJ := linesL_le 10 txS x.body (j + 1)
                have PC := fun l v w h1 h2 h3 h4 h5 => writeStmt_c u (all_at okb hxj) W1 b l v w h1 HTB.out h2 h3 h4 h5
                unfold S.v at PC
                obtain ⟨P, hP⟩ : ∃ q, q = linesL 10 txS (x.body.take j) := ⟨_, rfl⟩
                obtain ⟨Q, hQ⟩ : ∃ q, q = txS u := ⟨_, rfl⟩
                rw [← hP] at ES HA
                rw [ES.out] at HLJ
                rw [← hQ] at ES HLJ
                simp only [← hQ] at PC
                have HLQ : Hid (l3.length + (P.length + (Q.length + 1)) ≤ 140737488355328) := Lib.hid (by have := HLB.out; simp only [List.length_append, List.length_cons, List.length_nil] at HLJ; omega)
                clear hP hQ HLJ hxj hin
                obtain ⟨uq0, huq0⟩ : ∃ q, q = u.kind := ⟨_, rfl⟩
                obtain ⟨uq1, huq1⟩ : ∃ q, q = u.name := ⟨_, rfl⟩
                obtain ⟨uq2, huq2⟩ : ∃ q, q = u.typed := ⟨_, rfl⟩
                obtain ⟨uq3, huq3⟩ : ∃ q, q = u.t.k := ⟨_, rfl⟩
                obtain ⟨uq4, huq4⟩ : ∃ q, q = u.t.b := ⟨_, rfl⟩
                obtain ⟨uq5, huq5⟩ : ∃ q, q = u.t.n := ⟨_, rfl⟩
                obtain ⟨uq6, huq6⟩ : ∃ q, q = u.e.op := ⟨_, rfl⟩
                obtain ⟨uq7, huq7⟩ : ∃ q, q = u.e.val := ⟨_, rfl⟩
                obtain ⟨uq8, huq8⟩ : ∃ q, q = u.e.name := ⟨_, rfl⟩
                obtain ⟨uq9, huq9⟩ : ∃ q, q = u.e.a := ⟨_, rfl⟩
                obtain ⟨uq10, huq10⟩ : ∃ q, q = u.e.args.length := ⟨_, rfl⟩
                obtain ⟨uq11, huq11⟩ : ∃ q, q = u.e.cap := ⟨_, rfl⟩
                obtain ⟨uq12, huq12⟩ : ∃ q, q = u.lo := ⟨_, rfl⟩
                obtain ⟨uq13, huq13⟩ : ∃ q, q = u.hi := ⟨_, rfl⟩
                obtain ⟨uq14, huq14⟩ : ∃ q, q = u.a := ⟨_, rfl⟩
                obtain ⟨uq15, huq15⟩ : ∃ q, q = u.body.length := ⟨_, rfl⟩
                obtain ⟨uq16, huq16⟩ : ∃ q, q = u.cap := ⟨_, rfl⟩
                simp only [← huq0, ← huq1, ← huq2, ← huq3, ← huq4, ← huq5, ← huq6, ← huq7, ← huq8, ← huq9, ← huq10, ← huq11, ← huq12, ← huq13, ← huq14, ← huq15, ← huq16] at k0 k1 k2 k3 k4 k5 k6 k7 k8 k9 k10 k11 k12 PC
                clear huq0 huq1 huq2 huq3 huq4 huq5 huq6 huq7 huq8 huq9 huq10 huq11 huq12 huq13 huq14 huq15 huq16
                have HPC := Lib.hid PC
                clear PC
                go_wp2_with fail
                have HA2 := Lib.hid (HA.out.grow ((Ext.refl _).alloc (.cells #[.int .i64 uq0, .string uq1, .bool uq2, .int .i64 uq3, .int .i64 uq4, .int .i64 uq5, .int .i64 uq6, .int .u64 (uq7 : Int), .string uq8, .slice uq9 uq10 uq11, .int .i64 uq12, .int .i64 uq13, .slice uq14 uq15 uq16] 61)))
                refine (HPC.out _ _ _ HIN0.out (HE1.out.trans ((Ext.refl _).alloc _)) HA2.out.bx (HA2.out.past HX3.out.size HP3.out) (by have q := HLQ.out; simp only [List.length_append] at q ⊢; omega)).mono ?_; rintro e1 wn ⟨rfl, vn, ha⟩
                have HA3 := Lib.hid (HA2.out.trans ha)
                clear ha k0 k1 k2 k3 k4 k5 k6 k7 k8 k9 k10 k11 k12
                go_wp2_with fail
                refine (WriteString_c b _ _ ⟨#[10]⟩ _ HA3.out.bx (by have q := HLQ.out; rw [lenS]; simp only [List.length_append, List.length_cons, List.length_nil] at q ⊢; omega)).mono ?_; rintro e2 wn ⟨rfl, vn, ha⟩
                have HA4 := Lib.hid (HA3.out.trans ha)
                clear ha
                go_wp2_with fail
                go_roundw
                case rel =>
                  refine ⟨j + 1, vn, by go_num, by rw [← HNB.out]; omega, ?_⟩
                  rw [ES.out]
                  have q := HA4.out
                  simp only [List.append_assoc] at q ⊢
                  exact q
                case measure => simp [intOf]; omega
              · obtain rfl : xq7 = j := by omega
                have ET : Hid (x.body.take xq7 = x.body) := Lib.hid (List.take_of_length_le (by rw [HNB.out]; exact Nat.le_refl _))
                rw [ET.out] at HA
                replace c0 := HE1.out.cell C0.out
                replace c1 := HE1.out.cell C1.out
                replace c2 := HE1.out.cell C2.out
                have HB := Lib.hid HA.out.bx
                have HP := Lib.hid (HA.out.past HX3.out.size HP3.out)
                have HX := HE1
                clear HA HE1 HB3 HP3 HX3 ET
                obtain ⟨TT, hTT⟩ : ∃ q : ByteArray, q = ⟨(([] ++ linesL 10 txF x.funcs) ++ linesL 10 txD x.decls ++ linesL 10 txS x.body).toArray⟩ := ⟨_, rfl⟩
                have ETT : Hid (TT = ⟨T.toArray⟩) := Lib.hid (by rw [hTT, HT.out]; simp)
                rw [L2.out, L1.out] at HB
                have HTT := Lib.hid hTT
                clear hTT
                go_wp2_with fail
                refine (String_c b 0 _ _ _ _ HB.out HX.out HP.out).mono ?_; rintro e4 w4 ⟨rfl, x4, _⟩
                rw [← HTT.out, ETT.out]
                clear c0 c1 c2
                by_cases hl : T.length ≤ 16384
                · have LC := Lib.hid (fun w' => limited_ok ⟨T.toArray⟩ (by rw [mkSize]; exact hl) w')
                  have ER : Hid (fmR x = .tuple #[.string ⟨T.toArray⟩, .int .i64 0]) := Lib.hid (by unfold fmR; rw [if_pos HV.out, HTX.out, if_pos hl])
                  clear hl
                  go_wp2_with fail
                  refine (LC.out _).mono ?_; rintro e5 w5 ⟨rfl, rfl⟩
                  go_wp2_with fail
                  go_returns
                  exact ⟨by rw [HR.out, ER.out]; rfl, XB.out.trans x4⟩
                · have LC := Lib.hid (fun w' => limited_no ⟨T.toArray⟩ (by rw [mkSize]; omega) w')
                  have ER : Hid (fmR x = .tuple #[.string ⟨#[]⟩, .int .i64 3]) := Lib.hid (by unfold fmR; rw [if_pos HV.out, HTX.out, if_neg hl])
                  clear hl
                  go_wp2_with fail
                  refine (LC.out _).mono ?_; rintro e5 w5 ⟨rfl, rfl⟩
                  go_wp2_with fail
                  go_returns
                  exact ⟨by rw [HR.out, ER.out]; rfl, XB.out.trans x4⟩
  · have t0 : (V == 0) = false := beq_eq_false_iff_ne.2 h0
    have t0b : (V != 0) = true := by rw [bne, t0]; rfl
    have ER : Hid (RR = .tuple #[.string ⟨#[]⟩, .int .i64 V]) := Lib.hid (by rw [HR.out]; unfold fmR; rw [← hV, if_neg h0])
    clear HR h0 hV hwt hx ht
    unfold G.v at *
    obtain ⟨xq0, hxq0⟩ : ∃ q, q = x.fa := ⟨_, rfl⟩
    obtain ⟨xq1, hxq1⟩ : ∃ q, q = x.funcs.length := ⟨_, rfl⟩
    obtain ⟨xq2, hxq2⟩ : ∃ q, q = x.fc := ⟨_, rfl⟩
    obtain ⟨xq3, hxq3⟩ : ∃ q, q = x.da := ⟨_, rfl⟩
    obtain ⟨xq4, hxq4⟩ : ∃ q, q = x.decls.length := ⟨_, rfl⟩
    obtain ⟨xq5, hxq5⟩ : ∃ q, q = x.dc := ⟨_, rfl⟩
    obtain ⟨xq6, hxq6⟩ : ∃ q, q = x.ba := ⟨_, rfl⟩
    obtain ⟨xq7, hxq7⟩ : ∃ q, q = x.body.length := ⟨_, rfl⟩
    obtain ⟨xq8, hxq8⟩ : ∃ q, q = x.bc := ⟨_, rfl⟩
    simp only [← hxq0, ← hxq1, ← hxq2, ← hxq3, ← hxq4, ← hxq5, ← hxq6, ← hxq7, ← hxq8] at VC ⊢
    clear hxq0 hxq1 hxq2 hxq3 hxq4 hxq5 hxq6 hxq7 hxq8
    replace VC := Lib.hid VC
    go_enter Tryd.func17, Tryd.ntmps17
    go_wp2_with fail
    refine (VC.out _ (HXX.out.to ((Ext.refl _).alloc _))).mono ?_; rintro e1 w1 ⟨rfl, x1⟩
    have X := x1.box
    clear x1
    go_wp2_with fail
    go_returns
    exact ⟨by rw [ER.out]; rfl, X⟩
end Go.Proofs.YtcheigpejbmaoaaDoor
