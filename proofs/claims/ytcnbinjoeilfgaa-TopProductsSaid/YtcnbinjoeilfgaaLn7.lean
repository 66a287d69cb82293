/- The walk of linear.eliminate. Printed by gen/elim.py. -/
import Derived.Test.YtcnbinjoeilfgaaLn6
namespace Go.Proofs.Ytcnbinjoeilfgaa
open Go.RowKit
/-- What elimination hands back. -/
def ElPost (w0 w : World) (p gm width : Nat) (r0 : List (List Nat)) (e : Ending) (w' : World) : Prop :=
  ∃ v L, e = .returned (.tuple #[v, .int .u64 (((elimE p r0 width).2.2 : Nat) : Int)]) ∧ EInv w0 p w.heap.size gm L (elimE p r0 width).1 v ((elimE p r0 width).2.1.map Int.ofNat) w'
set_option maxRecDepth 100000 in
set_option maxHeartbeats 16000000 in
theorem elim_c (p gm n W width : Nat) (L0 : List SlC) (r0 : List (List Nat)) (w0 w : World) (hv : vld p = true) (hM : Mat w w0.heap.size gm L0 r0) (hL : L0.length = r0.length) (hX : Ext w0 w) (hR : Redd p W r0) (hn : r0.length = n) (hn64 : n ≤ 64) (hW64 : W ≤ 65) (hwid : width ≤ W) :
    Calls Try.prog 65 #[.agg #[.int .u64 p], .slice (some ⟨gm, 0, none⟩) n n, .int .i64 width] w (ElPost w0 w p gm width r0) := by
  have V := Lib.hid hv
  have OK := Lib.hid (elimE_ok hv hR hn)
  obtain ⟨hb, hhb⟩ : ∃ q, q = w.heap.size := ⟨_, rfl⟩
  have HW0 : Hid (w0.heap.size ≤ hb) := Lib.hid (by rw [hhb]; exact hX.size)
  have HI : Hid (EInv w0 p hb gm L0 r0 (.slice none 0 0) [] (w.alloc (.cells #[.int .u64 p] 29))) := Lib.hid (by
    rw [hhb]
    refine ⟨hM.ext ((Ext.refl _).alloc _), hL, fun i hi => (hM.row i hi).arr.lt, hM.heads.lt, by simp, hX.alloc _, by simp, OwnI.nil _ _⟩)
  have HPO : Hid (ElPost w0 w p gm width r0 = fun e w' => ∃ v L, e = .returned (.tuple #[v, .int .u64 (((elimE p r0 width).2.2 : Nat) : Int)]) ∧ EInv w0 p hb gm L (elimE p r0 width).1 v ((elimE p r0 width).2.1.map Int.ofNat) w') := Lib.hid (by rw [hhb]; rfl)
  rw [HPO.out]
  have HHB := Lib.hid hhb
  clear hv hM hL hX hR hn hhb HPO
  go_enter Try.func65, Try.ntmps65
  go_wp2_with fail
  rw [← HHB.out]
  go_loopw [8, 9, 22] (ElRel p gm hb width r0 w0) (fun _ _ s _ => width - (intOf s).toNat)
  case atStart => exact ⟨0, L0, rfl, Nat.zero_le _, rfl, HI.out⟩
  case round =>
    clear HI
    obtain ⟨c, L, rfl, hc, h9, hE⟩ := hrel
    have hok := OK.out c
    obtain ⟨rows, piv, fac, hs⟩ : ∃ rows piv fac, elimE p r0 c = (rows, piv, fac) := ⟨_, _, _, rfl⟩
    have HS := Lib.hid hs
    rw [hs] at h9 hE hok
    dsimp only at h9 hE
    subst h9
    obtain ⟨o1, o2, o3, o4⟩ := hok
    dsimp only at o1 o2 o3 o4
    obtain ⟨a8, c8, h8, _, _, _⟩ := hE.piv.form
    rw [List.length_map] at h8
    obtain ⟨t, ht⟩ : ∃ q, q = piv.length := ⟨_, rfl⟩
    rw [← ht] at h8 o3
    subst h8
    have HE := Lib.hid hE
    have HN := Lib.hid o1
    have HR := Lib.hid o2
    have HT := Lib.hid ht
    clear hE o1 o2 ht hs
    by_cases hcw : c < width
    · obtain ⟨F, hF⟩ : ∃ F, F = findE rows c t := ⟨_, rfl⟩
      have HF := Lib.hid hF
      have F0 : Hid (findP rows c (n - t) t = F) := Lib.hid (by rw [hF]; unfold findE; rw [HN.out])
      have sp := findE_spec (rows := rows) (c := c) (t := t) (by rw [HN.out]; exact o3)
      rw [← hF, HN.out] at sp
      have hF1 := sp.1
      have hF2 := sp.2.1
      have h0 := HE.out.box
      clear sp hF
      obtain ⟨wo, hwo⟩ : ∃ q : World, q = wr := ⟨_, rfl⟩
      subst hwo
      go_wp2_with fail
      go_loopw [12] (FdRel rows c F n wo) (fun s _ => n - (intOf s).toNat)
      case atStart => exact ⟨t, rfl, o3, F0.out, rfl⟩
      case round =>
        obtain ⟨k, rfl, hk, hfk, hw⟩ := hrel
        subst hw
        have HFK := Lib.hid hfk
        clear hfk F0
        by_cases hkn : k < n
        · have hkR : k < rows.length := by rw [HN.out]; exact hkn
          have kh := HE.out.mat.head hkR
          rw [HR.out.len k hkR] at kh
          have ke := HE.out.mat.at (i := k) (j := c) hkR (by rw [HR.out.len k hkR]; omega)
          have HKR := Lib.hid hkR
          clear hkR
          by_cases hz : (rows.getD k []).getD c 0 = 0
          · have HFM := Lib.hid (findP_more hkn HFK.out hz)
            rw [hz] at ke
            clear hz
            go_wp2_with fail
            go_roundw
            case rel => exact ⟨k + 1, by go_num, by omega, HFM.out, rfl⟩
            case measure => simp [intOf]; omega
          · obtain rfl : F = k := findP_here hkn HFK.out hz
            obtain ⟨e, he⟩ : ∃ q, q = (rows.getD F []).getD c 0 := ⟨_, rfl⟩
            rw [← he] at ke hz
            have tz : ((e : Int) == 0) = false := beq_eq_false_iff_ne.2 (by omega)
            have tn : ((F : Int) == (n : Int)) = false := beq_eq_false_iff_ne.2 (by omega)
            have htn : t < n := by omega
            clear he hz
            by_cases hFt : F = t
            · have tt : ((F : Int) != (t : Int)) = false := bne_eq_false_iff_eq.2 (by omega)
              have HST : Hid (stepE p c (rows, piv, fac) = (elK p c t (nrR p rows c t) n, piv ++ [c], fmul p fac (pivV rows c t))) := Lib.hid (stepE_go HT.out HN.out HF.out (by omega) (by rw [hFt]; exact swR_eq _ _) (by rw [if_pos hFt]))
              have HE : Hid (EInv w0 p hb gm L rows (.slice a8 t c8) (piv.map Int.ofNat) wr) := Lib.hid HE.out
              obtain ⟨R1, hR1⟩ : ∃ q, q = rows := ⟨_, rfl⟩
              have HN1 : Hid (R1.length = n) := Lib.hid (by rw [hR1]; exact HN.out)
              have HR1 : Hid (Redd p W R1) := Lib.hid (by rw [hR1]; exact HR.out)
              obtain ⟨fac1, hfac1⟩ : ∃ q, q = fac := ⟨_, rfl⟩
              have HST : Hid (stepE p c (rows, piv, fac) = (elK p c t (nrR p R1 c t) n, piv ++ [c], fmul p fac1 (pivV R1 c t))) := Lib.hid (by rw [hR1, hfac1]; exact HST.out)
              rw [← hfac1]
              have HE : Hid (EInv w0 p hb gm L R1 (.slice a8 t c8) (piv.map Int.ofNat) wr) := Lib.hid (by rw [hR1]; exact HE.out)
              obtain ⟨L1, hL1⟩ : ∃ q, q = L := ⟨_, rfl⟩
              rw [← hL1] at HE
              clear hL1 hR1 hFt hfac1
              go_wp2_with fail
              clear kh ke tz tn tt h0
              have htR : t < R1.length := by rw [HN1.out]; exact htn
              have h0 := HE.out.box
              have kh := HE.out.mat.head htR
              rw [HR1.out.len t htR] at kh
              have ke := HE.out.mat.at (i := t) (j := c) htR (by rw [HR1.out.len t htR]; omega)
              obtain ⟨x, hx0⟩ : ∃ x, x = pivV R1 c t := ⟨_, rfl⟩
              rw [show (R1.getD t []).getD c 0 = x from hx0.symm] at ke
              have HX0 := Lib.hid hx0
              obtain ⟨gT, hgT⟩ : ∃ q, q = rowG L1 t := ⟨_, rfl⟩
              rw [← hgT] at kh ke
              have HGT := Lib.hid hgT
              obtain ⟨cT, hcT⟩ : ∃ q, q = (L1.getD t (none, 0, 0)).2.2 := ⟨_, rfl⟩
              rw [← hcT] at kh
              have HCT := Lib.hid hcT
              have HTR := Lib.hid htR
              clear hx0 hgT hcT htR
              refine region_factsL [[], [], [], [], [(2, 70), (3, 71)], [(4, 72)], [], [(5, 73), (6, 74)], [(7, 75)], [(0, 68), (1, 69), (8, 76)], [(9, 77)]] [some 68, some 69, some 70, some 71, some 72, some 73, some 74, some 75, some 76, some 77, some 9] [false, true, false, true, false, false, false, false, false, true, true, true, false, false, false, false, false, false, false, false, false, false, false, false, false, false, false, false, false, false, false, false, false, false, false, false, false, false, false, false, false, false, false, false, false, false, false, false, false, false, false, false, false, false, false, false, false, false, false, false, false, false, false, false, false, false, false, false, false, false, false, false, false, false, false, false, false, false, false, false, false, false, false, false, false, false, false, false, false, false, false, false, false, false, false, false, false, false, false, false, false, false, false, false, false, false, false, false, false, false, false, false, false, false, false, false, false, false, false, false, false, false, false, false, false, false, false, false, false, false, false, false, false, false, false, false, false, false, false, false, false, false, false, false, false, false, false, false, false, false, false, false, false, false, false, false, false, false, false, false, false] (by kernel_rfl) (by kernel_rfl) (by kernel_rfl) ?_
              dsimp only [maskL]
              with_reducible apply FromM.eq
              · intro w' hx; have h0x := hx.cell h0; have khx := hx.cell kh; have kex := hx.cell ke; (try dsimp only [List.nil_append, List.cons_append, DepsL, DepsL1, setO, setN, favs, opsOf]); go_wp2; exact OpPostE.some _ rfl rfl (Ext.refl _) rfl
              with_reducible apply FromM.eq
              · intro w' hx; (try dsimp only [List.nil_append, List.cons_append, DepsL, DepsL1, setO, setN, favs, opsOf]); go_wp2; exact OpPostE.some _ rfl rfl (Ext.refl _) rfl
              with_reducible apply FromM.eq
              · intro w' hx; (try dsimp only [List.nil_append, List.cons_append, DepsL, DepsL1, setO, setN, favs, opsOf]); go_wp2; exact OpPostE.some _ rfl rfl (Ext.refl _) rfl
              with_reducible apply FromM.eq
              · intro w' hx; (try dsimp only [List.nil_append, List.cons_append, DepsL, DepsL1, setO, setN, favs, opsOf]); go_wp2; exact OpPostE.some _ rfl rfl (Ext.refl _) rfl
              with_reducible apply FromM.eq
              · intro w' hx; (try dsimp only [List.nil_append, List.cons_append, DepsL, DepsL1, setO, setN, favs, opsOf]); go_wp2; exact OpPostE.some _ rfl rfl (Ext.refl _) rfl
              with_reducible apply FromM.eq
              · intro w' hx; have h0x := hx.cell h0; have khx := hx.cell kh; have kex := hx.cell ke; (try dsimp only [List.nil_append, List.cons_append, DepsL, DepsL1, setO, setN, favs, opsOf]); go_wp2; exact OpPostE.some _ rfl rfl (Ext.refl _) rfl
              with_reducible apply FromM.eq
              · intro w' hx; (try dsimp only [List.nil_append, List.cons_append, DepsL, DepsL1, setO, setN, favs, opsOf]); go_wp2; exact OpPostE.some _ rfl rfl (Ext.refl _) rfl
              with_reducible apply FromM.eq
              · intro w' hx; (try dsimp only [List.nil_append, List.cons_append, DepsL, DepsL1, setO, setN, favs, opsOf]); go_wp2; exact OpPostE.some _ rfl rfl (Ext.refl _) rfl
              with_reducible apply FromM.eq
              · intro w' hx; have h0x := hx.cell h0; have khx := hx.cell kh; have kex := hx.cell ke; (try dsimp only [List.nil_append, List.cons_append, DepsL, DepsL1, setO, setN, favs, opsOf]); go_wp2; exact OpPostE.some _ rfl rfl (Ext.refl _) rfl
              with_reducible apply FromM.eq
              · intro w' hx; (try dsimp only [List.nil_append, List.cons_append, DepsL, DepsL1, setO, setN, favs, opsOf]); refine op_call 44 [.tmp 68, .tmp 69, .tmp 76] _ _ _ rfl rfl rfl rfl rfl rfl (fun _ _ => Try.call44 _ _) (Mul_c _ _ _ _) (fun e w2 h_ => ?_); obtain ⟨rfl, hb2⟩ := h_; exact ⟨_, rfl, hb2, rfl⟩
              with_reducible apply FromM.eq
              · intro w' hx; (try dsimp only [List.nil_append, List.cons_append, DepsL, DepsL1, setO, setN, favs, opsOf]); go_wp2; exact OpPostE.some _ rfl rfl (Ext.refl _) rfl
              with_reducible refine FromM.fin ?_
              intro w' hx
              (try dsimp only [List.nil_append, List.cons_append, EndL, DepsL1, setO, setN])
              replace h0 := hx.cell h0
              replace kh := hx.cell kh
              replace ke := hx.cell ke
              have HE := Lib.hid (HE.out.grow hx)
              clear hx
              obtain ⟨wq, hwq⟩ : ∃ q : World, q = w' := ⟨_, rfl⟩
              subst hwq
              go_wp2_with fail
              refine region_factsL [[], [], [], [(1, 79), (2, 80)], [(3, 81)], [], [(4, 82), (5, 83)], [(6, 84)], [(0, 78), (7, 85)], [(8, 86)]] [some 78, some 79, some 80, some 81, some 82, some 83, some 84, some 85, some 86, some 13] [false, true, false, true, false, false, false, false, false, false, true, true, false, false, false, false, false, false, false, false, false, false, false, false, false, false, false, false, false, false, false, false, false, false, false, false, false, false, false, false, false, false, false, false, false, false, false, false, false, false, false, false, false, false, false, false, false, false, false, false, false, false, false, false, false, false, false, false, false, false, false, false, false, false, false, false, false, false, false, false, false, false, false, false, false, false, false, false, false, false, false, false, false, false, false, false, false, false, false, false, false, false, false, false, false, false, false, false, false, false, false, false, false, false, false, false, false, false, false, false, false, false, false, false, false, false, false, false, false, false, false, false, false, false, false, false, false, false, false, false, false, false, false, false, false, false, false, false, false, false, false, false, false, false, false, false, false, false, false, false, false] (by kernel_rfl) (by kernel_rfl) (by kernel_rfl) ?_
              dsimp only [maskL]
              with_reducible apply FromM.eq
              · intro w' hx; have h0x := hx.cell h0; have khx := hx.cell kh; have kex := hx.cell ke; (try dsimp only [List.nil_append, List.cons_append, DepsL, DepsL1, setO, setN, favs, opsOf]); go_wp2; exact OpPostE.some _ rfl rfl (Ext.refl _) rfl
              with_reducible apply FromM.eq
              · intro w' hx; (try dsimp only [List.nil_append, List.cons_append, DepsL, DepsL1, setO, setN, favs, opsOf]); go_wp2; exact OpPostE.some _ rfl rfl (Ext.refl _) rfl
              with_reducible apply FromM.eq
              · intro w' hx; (try dsimp only [List.nil_append, List.cons_append, DepsL, DepsL1, setO, setN, favs, opsOf]); go_wp2; exact OpPostE.some _ rfl rfl (Ext.refl _) rfl
              with_reducible apply FromM.eq
              · intro w' hx; (try dsimp only [List.nil_append, List.cons_append, DepsL, DepsL1, setO, setN, favs, opsOf]); go_wp2; exact OpPostE.some _ rfl rfl (Ext.refl _) rfl
              with_reducible apply FromM.eq
              · intro w' hx; have h0x := hx.cell h0; have khx := hx.cell kh; have kex := hx.cell ke; (try dsimp only [List.nil_append, List.cons_append, DepsL, DepsL1, setO, setN, favs, opsOf]); go_wp2; exact OpPostE.some _ rfl rfl (Ext.refl _) rfl
              with_reducible apply FromM.eq
              · intro w' hx; (try dsimp only [List.nil_append, List.cons_append, DepsL, DepsL1, setO, setN, favs, opsOf]); go_wp2; exact OpPostE.some _ rfl rfl (Ext.refl _) rfl
              with_reducible apply FromM.eq
              · intro w' hx; (try dsimp only [List.nil_append, List.cons_append, DepsL, DepsL1, setO, setN, favs, opsOf]); go_wp2; exact OpPostE.some _ rfl rfl (Ext.refl _) rfl
              with_reducible apply FromM.eq
              · intro w' hx; have h0x := hx.cell h0; have khx := hx.cell kh; have kex := hx.cell ke; (try dsimp only [List.nil_append, List.cons_append, DepsL, DepsL1, setO, setN, favs, opsOf]); go_wp2; exact OpPostE.some _ rfl rfl (Ext.refl _) rfl
              with_reducible apply FromM.eq
              · intro w' hx; (try dsimp only [List.nil_append, List.cons_append, DepsL, DepsL1, setO, setN, favs, opsOf]); refine op_call 43 [.tmp 78, .tmp 85] _ _ _ rfl rfl rfl rfl rfl rfl (fun _ _ => Try.call43 _ _) (Inv_c _ _ _) (fun e w2 h_ => ?_); obtain ⟨rfl, hb2⟩ := h_; exact ⟨_, rfl, hb2, rfl⟩
              with_reducible apply FromM.eq
              · intro w' hx; (try dsimp only [List.nil_append, List.cons_append, DepsL, DepsL1, setO, setN, favs, opsOf]); go_wp2; exact OpPostE.some _ rfl rfl (Ext.refl _) rfl
              with_reducible refine FromM.fin ?_
              intro w' hx
              (try dsimp only [List.nil_append, List.cons_append, EndL, DepsL1, setO, setN])
              replace kh := hx.cell kh
              have HE := Lib.hid (HE.out.grow hx)
              clear hx h0 ke
              obtain ⟨wr2, hwq⟩ : ∃ q : World, q = w' := ⟨_, rfl⟩
              subst hwq
              obtain ⟨inv, hinv⟩ : ∃ q, q = finv p x := ⟨_, rfl⟩
              rw [← hinv]
              have HINV := Lib.hid hinv
              have HRL : Hid ((R1.getD t []).length = W) := Lib.hid (HR1.out.len t HTR.out)
              clear hinv
              go_wp2_with fail
              clear kh
              go_loopw [92] (NrRel w0 p hb gm inv t W L1 R1 (.slice a8 t c8) (piv.map Int.ofNat)) (fun s _ => W - (intOf s).toNat)
              case atStart =>
                refine ⟨0, rfl, Nat.zero_le _, ?_⟩
                rw [nrK_zero, set_self HTR.out]; exact HE.out
              case round =>
                clear HE
                obtain ⟨j, rfl, hj, hE⟩ := hrel
                have HEb := Lib.hid hE
                clear hE
                have SA : Hid ((R1.set t (nrK p inv (R1.getD t []) j)).getD t [] = nrK p inv (R1.getD t []) j) := Lib.hid (set_at HTR.out)
                have SL : Hid (t < (R1.set t (nrK p inv (R1.getD t []) j)).length) := Lib.hid (by rw [List.length_set]; exact HTR.out)
                by_cases hjW : j < W
                · have h0 := HEb.out.box
                  have kh := HEb.out.mat.head SL.out
                  rw [SA.out, nrK_len, HRL.out, ← HGT.out, ← HCT.out] at kh
                  have k2 := HEb.out.mat.at (i := t) (j := j) SL.out (by rw [SA.out, nrK_len, HRL.out]; exact hjW)
                  rw [SA.out, nrK_at (by rw [HRL.out]; exact hjW), ← HGT.out] at k2
                  have E2 : Hid ((R1.set t (nrK p inv (R1.getD t []) j)).set t ((nrK p inv (R1.getD t []) j).set j (fmul p ((R1.getD t []).getD j 0) inv)) = R1.set t (nrK p inv (R1.getD t []) (j + 1))) := Lib.hid (by rw [nrK_step, List.set_set])
                  obtain ⟨y, hy⟩ : ∃ q, q = (R1.getD t []).getD j 0 := ⟨_, rfl⟩
                  rw [← hy] at k2 E2
                  clear hy
                  go_wp2_with fail
                  refine region_factsL [[], [], [(0, 97), (1, 98)], [(2, 99)], [], [], [], [], [(5, 102), (6, 103), (7, 104)]] [some 97, some 98, some 99, some 100, some 101, some 102, some 103, some 104, some 105] [false, true, false, true, false, false, false, false, false, false, false, true, false, true, true, true, false, false, false, false, false, false, false, false, false, false, false, false, false, false, false, false, false, false, false, false, false, false, false, false, false, false, false, false, false, false, false, false, false, false, false, false, false, false, false, false, false, false, false, false, false, false, false, false, false, false, false, false, false, false, false, false, false, false, false, false, false, false, false, false, false, false, false, false, false, false, false, false, false, false, false, false, false, false, false, false, false, false, false, false, false, false, false, false, false, false, false, false, false, false, false, false, false, false, false, false, false, false, false, false, false, false, false, false, false, false, false, false, false, false, false, false, false, false, false, false, false, false, false, false, false, false, false, false, false, false, false, false, false, false, false, false, false, false, false, false, false, false, false, false, false] (by kernel_rfl) (by kernel_rfl) (by kernel_rfl) ?_
                  dsimp only [maskL]
                  with_reducible apply FromM.eq
                  · intro w' hx; (try dsimp only [List.nil_append, List.cons_append, DepsL, DepsL1, setO, setN, favs, opsOf]); go_wp2; exact OpPostE.some _ rfl rfl (Ext.refl _) rfl
                  with_reducible apply FromM.eq
                  · intro w' hx; (try dsimp only [List.nil_append, List.cons_append, DepsL, DepsL1, setO, setN, favs, opsOf]); go_wp2; exact OpPostE.some _ rfl rfl (Ext.refl _) rfl
                  with_reducible apply FromM.eq
                  · intro w' hx; (try dsimp only [List.nil_append, List.cons_append, DepsL, DepsL1, setO, setN, favs, opsOf]); go_wp2; exact OpPostE.some _ rfl rfl (Ext.refl _) rfl
                  with_reducible apply FromM.eq
                  · intro w' hx; have h0x := hx.cell h0; have khx := hx.cell kh; (try dsimp only [List.nil_append, List.cons_append, DepsL, DepsL1, setO, setN, favs, opsOf]); go_wp2; exact OpPostE.some _ rfl rfl (Ext.refl _) rfl
                  with_reducible apply FromM.eq
                  · intro w' hx; (try dsimp only [List.nil_append, List.cons_append, DepsL, DepsL1, setO, setN, favs, opsOf]); go_wp2; exact OpPostE.some _ rfl rfl (Ext.refl _) rfl
                  with_reducible apply FromM.eq
                  · intro w' hx; have h0x := hx.cell h0; have khx := hx.cell kh; (try dsimp only [List.nil_append, List.cons_append, DepsL, DepsL1, setO, setN, favs, opsOf]); go_wp2; exact OpPostE.some _ rfl rfl (Ext.refl _) rfl
                  with_reducible apply FromM.eq
                  · intro w' hx; (try dsimp only [List.nil_append, List.cons_append, DepsL, DepsL1, setO, setN, favs, opsOf]); go_wp2; exact OpPostE.some _ rfl rfl (Ext.refl _) rfl
                  with_reducible apply FromM.eq
                  · intro w' hx; (try dsimp only [List.nil_append, List.cons_append, DepsL, DepsL1, setO, setN, favs, opsOf]); go_wp2; exact OpPostE.some _ rfl rfl (Ext.refl _) rfl
                  with_reducible apply FromM.eq
                  · intro w' hx; (try dsimp only [List.nil_append, List.cons_append, DepsL, DepsL1, setO, setN, favs, opsOf]); refine op_call 44 [.tmp 102, .tmp 103, .tmp 104] _ _ _ rfl rfl rfl rfl rfl rfl (fun _ _ => Try.call44 _ _) (Mul_c _ _ _ _) (fun e w2 h_ => ?_); obtain ⟨rfl, hb2⟩ := h_; exact ⟨_, rfl, hb2, rfl⟩
                  with_reducible refine FromM.fin ?_
                  intro w' hx
                  (try dsimp only [List.nil_append, List.cons_append, EndL, DepsL1, setO, setN])
                  have M6 := HEb.out.grow hx
                  have f6 := (M6.mat.row t SL.out).arr.frozen j
                  have k6 := M6.mat.at (i := t) (j := j) SL.out (by rw [SA.out, nrK_len, HRL.out]; exact hjW)
                  have S6 := M6.set (i := t) SL.out j (fmul p y inv) (by rw [SA.out, nrK_len, HRL.out]; exact hjW)
                  rw [SA.out, E2.out, ← HGT.out] at S6
                  rw [← HGT.out] at f6 k6
                  rw [SA.out, nrK_at (by rw [HRL.out]; exact hjW)] at k6
                  have HS6 := Lib.hid S6
                  clear M6 S6 hx h0 kh k2
                  go_wp2_with fail
                  go_roundw
                  case rel => exact ⟨j + 1, by go_num, by omega, HS6.out⟩
                  case measure => simp [intOf]; omega
                · obtain rfl : j = W := by omega
                  have hE := HEb.out
                  rw [HINV.out, HX0.out, nrR_set HRL.out] at hE
                  have HEc := Lib.hid hE
                  clear hE HEb
                  obtain ⟨R2, hR2⟩ : ∃ q, q = nrR p R1 c t := ⟨_, rfl⟩
                  rw [← hR2] at HEc
                  have HN2 : Hid (R2.length = n) := Lib.hid (by rw [hR2, nrR_len]; exact HN1.out)
                  have HR2 : Hid (Redd p j R2) := Lib.hid (by rw [hR2]; exact Redd.nr V.out HR1.out c HTR.out)
                  have HST : Hid (stepE p c (rows, piv, fac) = (elK p c t R2 n, piv ++ [c], fmul p fac1 x)) := Lib.hid (by rw [HST.out, hR2, HX0.out])
                  have HT2 : Hid (t < R2.length) := Lib.hid (by rw [HN2.out]; exact htn)
                  clear hR2 SA SL
                  go_wp2_with fail
                  go_loopw [110] (ElkRel w0 p hb gm c t n L1 R2 (.slice a8 t c8) (piv.map Int.ofNat)) (fun s _ => n - (intOf s).toNat)
                  case atStart =>
                    refine ⟨0, rfl, Nat.zero_le _, ?_⟩
                    rw [elK_zero]; exact HEc.out
                  case round =>
                    clear HEc
                    obtain ⟨i, rfl, hi, hE⟩ := hrel
                    have HEd := Lib.hid hE
                    clear hE
                    have HLK : Hid ((elK p c t R2 i).length = n) := Lib.hid (by rw [elK_len]; exact HN2.out)
                    by_cases hin : i < n
                    · have hiR : i < R2.length := by rw [HN2.out]; exact hin
                      have hiE : i < (elK p c t R2 i).length := by rw [HLK.out]; exact hin
                      have htE : t < (elK p c t R2 i).length := by rw [HLK.out]; exact htn
                      have RI : Hid ((elK p c t R2 i).getD i [] = R2.getD i []) := Lib.hid (elK_row hiR)
                      have RT : Hid ((elK p c t R2 i).getD t [] = R2.getD t []) := Lib.hid (elK_top HT2.out)
                      have RIL : Hid ((R2.getD i []).length = j) := Lib.hid (HR2.out.len i hiR)
                      have RTL : Hid ((R2.getD t []).length = j) := Lib.hid (HR2.out.len t HT2.out)
                      have kh := HEd.out.mat.head hiE
                      rw [RI.out, RIL.out] at kh
                      have kt := HEd.out.mat.head htE
                      rw [RT.out, RTL.out, ← HGT.out, ← HCT.out] at kt
                      have ke := HEd.out.mat.at (i := i) (j := c) hiE (by rw [RI.out, RIL.out]; omega)
                      rw [RI.out] at ke
                      obtain ⟨gi, hgi⟩ : ∃ q, q = rowG L1 i := ⟨_, rfl⟩
                      rw [← hgi] at kh ke
                      have HGI := Lib.hid hgi
                      obtain ⟨ci, hci⟩ : ∃ q, q = (L1.getD i (none, 0, 0)).2.2 := ⟨_, rfl⟩
                      rw [← hci] at kh
                      have HIR := Lib.hid (And.intro hiR (And.intro hiE htE))
                      clear hgi hci hiR hiE htE
                      by_cases hit : i = t
                      · have HK : Hid (elK p c t R2 (i + 1) = elK p c t R2 i) := Lib.hid (elK_keep HIR.out.1 (.inl hit))
                        clear ke kt
                        obtain rfl : i = t := hit
                        go_wp2_with fail
                        go_roundw
                        case rel => exact ⟨i + 1, by go_num, by omega, by rw [HK.out]; exact HEd.out⟩
                        case measure => simp [intOf]; omega
                      · have tit : ((i : Int) == (t : Int)) = false := beq_eq_false_iff_ne.2 (by omega)
                        by_cases hz : (R2.getD i []).getD c 0 = 0
                        · have HK : Hid (elK p c t R2 (i + 1) = elK p c t R2 i) := Lib.hid (elK_keep HIR.out.1 (.inr hz))
                          rw [hz] at ke
                          clear kt hz
                          go_wp2_with fail
                          go_roundw
                          case rel => exact ⟨i + 1, by go_num, by omega, by rw [HK.out]; exact HEd.out⟩
                          case measure => simp [intOf]; omega
                        · have HK := Lib.hid (elK_do HIR.out.1 hit hz RIL.out (p := p))
                          obtain ⟨e, he⟩ : ∃ q, q = (R2.getD i []).getD c 0 := ⟨_, rfl⟩
                          rw [← he] at ke hz HK
                          have tz : ((e : Int) == 0) = false := beq_eq_false_iff_ne.2 (by omega)
                          have HIT := Lib.hid hit
                          clear he hit hz
                          go_wp2_with fail
                          clear kt ke kh tz tit
                          go_loopw [134] (EljRel w0 p hb gm i e j (R2.getD t []) (R2.getD i []) L1 (elK p c t R2 i) (.slice a8 t c8) (piv.map Int.ofNat)) (fun s _ => j - (intOf s).toNat)
                          case atStart =>
                            refine ⟨0, rfl, Nat.zero_le _, ?_⟩
                            rw [elJ_zero, ← RI.out, set_self HIR.out.2.1]; exact HEd.out
                          case round =>
                            clear HEd
                            obtain ⟨k, rfl, hk, hE⟩ := hrel
                            have HEe := Lib.hid hE
                            clear hE
                            by_cases hkW : k < j
                            · have SA := Lib.hid (set_at (d := []) HIR.out.2.1 (x := elJ p e (R2.getD t []) (R2.getD i []) k))
                              have SO := Lib.hid (set_off (d := []) (k := t) HIR.out.2.1 (fun q => HIT.out q.symm) (x := elJ p e (R2.getD t []) (R2.getD i []) k))
                              have SI : Hid (i < ((elK p c t R2 i).set i (elJ p e (R2.getD t []) (R2.getD i []) k)).length) := Lib.hid (by rw [List.length_set]; exact HIR.out.2.1)
                              have ST : Hid (t < ((elK p c t R2 i).set i (elJ p e (R2.getD t []) (R2.getD i []) k)).length) := Lib.hid (by rw [List.length_set]; exact HIR.out.2.2)
                              have h0 := HEe.out.box
                              have ki := HEe.out.mat.at (i := i) (j := k) SI.out (by rw [SA.out, elJ_len, RIL.out]; exact hkW)
                              rw [SA.out, elJ_at (by rw [RIL.out]; exact hkW), ← HGI.out] at ki
                              have kt := HEe.out.mat.at (i := t) (j := k) ST.out (by rw [SO.out, RT.out, RTL.out]; exact hkW)
                              rw [SO.out, RT.out, ← HGT.out] at kt
                              have E2 : Hid (((elK p c t R2 i).set i (elJ p e (R2.getD t []) (R2.getD i []) k)).set i ((elJ p e (R2.getD t []) (R2.getD i []) k).set k (fsub p ((R2.getD i []).getD k 0) (fmul p e ((R2.getD t []).getD k 0)))) = (elK p c t R2 i).set i (elJ p e (R2.getD t []) (R2.getD i []) (k + 1))) := Lib.hid (by rw [elJ_step, List.set_set])
                              obtain ⟨y, hy⟩ : ∃ q, q = (R2.getD i []).getD k 0 := ⟨_, rfl⟩
                              obtain ⟨z, hz⟩ : ∃ q, q = (R2.getD t []).getD k 0 := ⟨_, rfl⟩
                              rw [← hy] at ki E2
                              rw [← hz] at kt E2
                              have HY := Lib.hid hy
                              clear hy hz
                              go_wp2_with fail
                              clear kt
                              refine region_factsL [[], [], [], [], [], [(3, 142), (4, 143)], [(5, 144)], [], [], [], [(7, 146), (8, 147), (9, 148)], [(2, 141), (6, 145), (10, 149)]] [some 139, some 140, some 141, some 142, some 143, some 144, some 145, some 146, some 147, some 148, some 149, some 150] [false, false, false, true, false, false, false, false, false, false, false, false, false, false, false, false, false, true, true, true, true, false, false, false, false, false, false, false, false, false, false, false, false, false, false, false, false, false, false, false, false, false, false, false, false, false, false, false, false, false, false, false, false, false, false, false, false, false, false, false, false, false, false, false, false, false, false, false, false, false, false, false, false, false, false, false, false, false, false, false, false, false, false, false, false, false, false, false, false, false, false, false, false, false, false, false, false, false, false, false, false, false, false, false, false, false, false, false, false, false, false, false, false, false, false, false, false, false, false, false, false, false, false, false, false, false, false, false, false, false, false, false, false, false, false, false, false, false, false, false, false, false, false, false, false, false, false, false, false, false, false, false, false, false, false, false, false, false, false, false, false] (by kernel_rfl) (by kernel_rfl) (by kernel_rfl) ?_
                              dsimp only [maskL]
                              with_reducible apply FromM.eq
                              · intro w' hx; (try dsimp only [List.nil_append, List.cons_append, DepsL, DepsL1, setO, setN, favs, opsOf]); go_wp2; exact OpPostE.some _ rfl rfl (Ext.refl _) rfl
                              with_reducible apply FromM.eq
                              · intro w' hx; (try dsimp only [List.nil_append, List.cons_append, DepsL, DepsL1, setO, setN, favs, opsOf]); go_wp2; exact OpPostE.some _ rfl rfl (Ext.refl _) rfl
                              with_reducible apply FromM.eq
                              · intro w' hx; have h0x := hx.cell h0; have kix := hx.cell ki; (try dsimp only [List.nil_append, List.cons_append, DepsL, DepsL1, setO, setN, favs, opsOf]); go_wp2; exact OpPostE.some _ rfl rfl (Ext.refl _) rfl
                              with_reducible apply FromM.eq
                              · intro w' hx; (try dsimp only [List.nil_append, List.cons_append, DepsL, DepsL1, setO, setN, favs, opsOf]); go_wp2; exact OpPostE.some _ rfl rfl (Ext.refl _) rfl
                              with_reducible apply FromM.eq
                              · intro w' hx; (try dsimp only [List.nil_append, List.cons_append, DepsL, DepsL1, setO, setN, favs, opsOf]); go_wp2; exact OpPostE.some _ rfl rfl (Ext.refl _) rfl
                              with_reducible apply FromM.eq
                              · intro w' hx; (try dsimp only [List.nil_append, List.cons_append, DepsL, DepsL1, setO, setN, favs, opsOf]); go_wp2; exact OpPostE.some _ rfl rfl (Ext.refl _) rfl
                              with_reducible apply FromM.eq
                              · intro w' hx; have h0x := hx.cell h0; have kix := hx.cell ki; (try dsimp only [List.nil_append, List.cons_append, DepsL, DepsL1, setO, setN, favs, opsOf]); go_wp2; exact OpPostE.some _ rfl rfl (Ext.refl _) rfl
                              with_reducible apply FromM.eq
                              · intro w' hx; have h0x := hx.cell h0; have kix := hx.cell ki; (try dsimp only [List.nil_append, List.cons_append, DepsL, DepsL1, setO, setN, favs, opsOf]); go_wp2; exact OpPostE.some _ rfl rfl (Ext.refl _) rfl
                              with_reducible apply FromM.eq
                              · intro w' hx; (try dsimp only [List.nil_append, List.cons_append, DepsL, DepsL1, setO, setN, favs, opsOf]); go_wp2; exact OpPostE.some _ rfl rfl (Ext.refl _) rfl
                              with_reducible apply FromM.eq
                              · intro w' hx; (try dsimp only [List.nil_append, List.cons_append, DepsL, DepsL1, setO, setN, favs, opsOf]); go_wp2; exact OpPostE.some _ rfl rfl (Ext.refl _) rfl
                              with_reducible apply FromM.eq
                              · intro w' hx; (try dsimp only [List.nil_append, List.cons_append, DepsL, DepsL1, setO, setN, favs, opsOf]); refine op_call 44 [.tmp 146, .tmp 147, .tmp 148] _ _ _ rfl rfl rfl rfl rfl rfl (fun _ _ => Try.call44 _ _) (Mul_c _ _ _ _) (fun e w2 h_ => ?_); obtain ⟨rfl, hb2⟩ := h_; exact ⟨_, rfl, hb2, rfl⟩
                              with_reducible apply FromM.eq
                              · intro w' hx; (try dsimp only [List.nil_append, List.cons_append, DepsL, DepsL1, setO, setN, favs, opsOf]); refine op_call 68 [.tmp 141, .tmp 145, .tmp 149] _ _ _ rfl rfl rfl rfl rfl rfl (fun _ _ => Try.call68 _ _) (Sub_c _ _ _ _) (fun e w2 h_ => ?_); obtain ⟨rfl, hb2⟩ := h_; exact ⟨_, rfl, hb2, rfl⟩
                              with_reducible refine FromM.fin ?_
                              intro w' hx
                              (try dsimp only [List.nil_append, List.cons_append, EndL, DepsL1, setO, setN])
                              have M6 := HEe.out.grow hx
                              have f6 := (M6.mat.row i SI.out).arr.frozen k
                              have k6 := M6.mat.at (i := i) (j := k) SI.out (by rw [SA.out, elJ_len, RIL.out]; exact hkW)
                              have S6 := M6.set (i := i) SI.out k (fsub p y (fmul p e z)) (by rw [SA.out, elJ_len, RIL.out]; exact hkW)
                              rw [SA.out, E2.out, ← HGI.out] at S6
                              rw [← HGI.out] at f6 k6
                              rw [SA.out, elJ_at (by rw [RIL.out]; exact hkW)] at k6
                              have HS6 := Lib.hid S6
                              clear M6 S6 hx h0 ki
                              go_wp2_with fail
                              go_roundw
                              case rel => exact ⟨k + 1, by go_num, by omega, HS6.out⟩
                              case measure => simp [intOf]; omega
                            · obtain rfl : k = j := by omega
                              have hE := HEe.out
                              rw [HK.out] at hE
                              have HEf := Lib.hid hE
                              clear hE HEe
                              go_wp2_with fail
                              go_roundw
                              case rel => exact ⟨i + 1, by go_num, by omega, HEf.out⟩
                              case measure => simp [intOf]; omega
                    · obtain rfl : i = n := by omega
                      have HA := Lib.hid (HEd.out.grow ((Ext.refl _).alloc (.cells #[.int .i64 (c : Int)] 3)))
                      have HSZ := Lib.hid HEd.out.size
                      go_wp2_with (at_builtin; refine wpList_app1I rfl (.tmp 154) (.tmp 156) rfl (hb + 1) _ (piv.map Int.ofNat) rfl HA.out.piv wr.heap.size (c : Int) 1 rfl (by simp) (by rw [List.length_map, ← HT.out]; omega) (by have := HA.out.size; omega) ?_; intro v' w6 ho6 hx6 hk6; have HO6 := Lib.hid (HA.out.app HW0.out hx6 hk6 ho6); clear ho6 hx6 hk6)
                      go_roundw
                      case rel =>
                        refine ⟨c + 1, L1, by go_num, by omega, ?_, ?_⟩
                        · rw [show elimE p r0 (c + 1) = stepE p c (elimE p r0 c) from rfl, HS.out, HST.out]
                        · rw [show elimE p r0 (c + 1) = stepE p c (elimE p r0 c) from rfl, HS.out, HST.out]
                          simp only [List.map_append, List.map_cons, List.map_nil]
                          exact HO6.out
                      case measure => simp [intOf]; omega
            · have tt : ((F : Int) != (t : Int)) = true := bne_iff_ne.2 (by omega)
              have htR : t < rows.length := by rw [HN.out]; exact htn
              have kt := HE.out.mat.head htR
              rw [HR.out.len t htR] at kt
              have SW := HE.out.swap HKR.out htR
              rw [swR_ne hFt, HR.out.len t htR, HR.out.len F HKR.out] at SW
              obtain ⟨gF, hgF⟩ : ∃ q, q = rowG L F := ⟨_, rfl⟩
              obtain ⟨gt, hgt⟩ : ∃ q, q = rowG L t := ⟨_, rfl⟩
              obtain ⟨cF, hcF⟩ : ∃ q, q = (L.getD F (none, 0, 0)).2.2 := ⟨_, rfl⟩
              obtain ⟨ct, hct⟩ : ∃ q, q = (L.getD t (none, 0, 0)).2.2 := ⟨_, rfl⟩
              rw [← hgF] at kh ke SW
              rw [← hgt] at kt SW
              rw [← hcF] at kh SW
              rw [← hct] at kt SW
              have HSW := Lib.hid SW
              have f1 := HE.out.mat.heads.frozen F
              have f2 := HSW.out.mat.heads.frozen t
              have f3 := HE.out.mat.heads.frozen t
              have f4 : (wr.setCell ⟨gm, F, none⟩ (.slice (some ⟨gt, 0, none⟩) W ct)).frozen? ⟨gm, t, none⟩ = false := (HE.out.mat.heads.set F (some (⟨gt, 0, none⟩ : Addr), W, ct)).frozen t
              have k4 : (wr.setCell ⟨gm, F, none⟩ (.slice (some ⟨gt, 0, none⟩) W ct)).cell? ⟨gm, t, none⟩ = some (.slice (some ⟨gt, 0, none⟩) W ct) := by
                have q := (HE.out.mat.heads.set F (some (⟨gt, 0, none⟩ : Addr), W, ct)).at (i := t) (by rw [List.length_set, HE.out.llen]; exact htR)
                rw [set_off (by rw [HE.out.llen]; exact HKR.out) (fun q => hFt q.symm)] at q
                rw [q, (HE.out.mat.row t htR).adr, (HE.out.mat.row t htR).len, HR.out.len t htR, ← hgt, ← hct]
              have HST : Hid (stepE p c (rows, piv, fac) = (elK p c t (nrR p (swR rows F t) c t) n, piv ++ [c], fmul p (fneg p fac) (pivV (swR rows F t) c t))) := Lib.hid (stepE_go HT.out HN.out HF.out (by omega) rfl (by rw [if_neg hFt]))
              have HN1 : Hid ((swR rows F t).length = n) := Lib.hid (by rw [swR_len]; exact HN.out)
              have HR1 : Hid (Redd p W (swR rows F t)) := Lib.hid (Redd.sw HR.out HKR.out htR)
              have HHB : Hid (hb ≠ gm) := Lib.hid (by have := HE.out.glow; omega)
              clear SW f2 hgF hgt hcF hct htR HE hFt
              go_wp2_with fail
              go_region
              obtain ⟨ws, hws⟩ : ∃ q, q = ((wr.setCell ⟨gm, F, none⟩ (.slice (some ⟨gt, 0, none⟩) W ct)).setCell ⟨gm, t, none⟩ (.slice (some ⟨gF, 0, none⟩) W cF)) := ⟨_, rfl⟩
              rw [← hws] at HSW
              rw [← hws]
              have h0 := HSW.out.box
              clear hws kh ke tz tn tt kt f1 f3 f4 k4
              obtain ⟨L1, hL1⟩ : ∃ q, q = ((L.set F (L.getD t (none, 0, 0))).set t (L.getD F (none, 0, 0))) := ⟨_, rfl⟩
              rw [← hL1] at HSW
              obtain ⟨R1, hR1⟩ : ∃ q, q = swR rows F t := ⟨_, rfl⟩
              rw [← hR1] at HSW HST HN1 HR1
              have hx1 := (Ext.refl ws).drew
              have HE := Lib.hid (HSW.out.grow hx1)
              clear hL1 hR1 HSW hx1
              go_wp2_with fail
              refine (Neg_c _ _ _).mono ?_; rintro e1 w5 ⟨rfl, x5⟩
              obtain ⟨fac1, hfac1⟩ : ∃ q, q = fneg p fac := ⟨_, rfl⟩
              rw [← hfac1] at HST
              rw [← hfac1]
              have HE := Lib.hid (HE.out.grow x5)
              clear x5 h0 hfac1
              go_wp2_with fail
              have htR : t < R1.length := by rw [HN1.out]; exact htn
              have h0 := HE.out.box
              have kh := HE.out.mat.head htR
              rw [HR1.out.len t htR] at kh
              have ke := HE.out.mat.at (i := t) (j := c) htR (by rw [HR1.out.len t htR]; omega)
              obtain ⟨x, hx0⟩ : ∃ x, x = pivV R1 c t := ⟨_, rfl⟩
              rw [show (R1.getD t []).getD c 0 = x from hx0.symm] at ke
              have HX0 := Lib.hid hx0
              obtain ⟨gT, hgT⟩ : ∃ q, q = rowG L1 t := ⟨_, rfl⟩
              rw [← hgT] at kh ke
              have HGT := Lib.hid hgT
              obtain ⟨cT, hcT⟩ : ∃ q, q = (L1.getD t (none, 0, 0)).2.2 := ⟨_, rfl⟩
              rw [← hcT] at kh
              have HCT := Lib.hid hcT
              have HTR := Lib.hid htR
              clear hx0 hgT hcT htR
              refine region_factsL [[], [], [], [], [(2, 70), (3, 71)], [(4, 72)], [], [(5, 73), (6, 74)], [(7, 75)], [(0, 68), (1, 69), (8, 76)], [(9, 77)]] [some 68, some 69, some 70, some 71, some 72, some 73, some 74, some 75, some 76, some 77, some 9] [false, true, false, true, false, false, false, false, false, true, true, true, false, false, false, false, false, false, false, false, false, false, false, false, false, false, false, false, false, false, false, false, false, false, false, false, false, false, false, false, false, false, false, false, false, false, false, false, false, false, false, false, false, false, false, false, false, false, false, false, false, false, false, false, false, false, false, false, false, false, false, false, false, false, false, false, false, false, false, false, false, false, false, false, false, false, false, false, false, false, false, false, false, false, false, false, false, false, false, false, false, false, false, false, false, false, false, false, false, false, false, false, false, false, false, false, false, false, false, false, false, false, false, false, false, false, false, false, false, false, false, false, false, false, false, false, false, false, false, false, false, false, false, false, false, false, false, false, false, false, false, false, false, false, false, false, false, false, false, false, false] (by kernel_rfl) (by kernel_rfl) (by kernel_rfl) ?_
              dsimp only [maskL]
              with_reducible apply FromM.eq
              · intro w' hx; have h0x := hx.cell h0; have khx := hx.cell kh; have kex := hx.cell ke; (try dsimp only [List.nil_append, List.cons_append, DepsL, DepsL1, setO, setN, favs, opsOf]); go_wp2; exact OpPostE.some _ rfl rfl (Ext.refl _) rfl
              with_reducible apply FromM.eq
              · intro w' hx; (try dsimp only [List.nil_append, List.cons_append, DepsL, DepsL1, setO, setN, favs, opsOf]); go_wp2; exact OpPostE.some _ rfl rfl (Ext.refl _) rfl
              with_reducible apply FromM.eq
              · intro w' hx; (try dsimp only [List.nil_append, List.cons_append, DepsL, DepsL1, setO, setN, favs, opsOf]); go_wp2; exact OpPostE.some _ rfl rfl (Ext.refl _) rfl
              with_reducible apply FromM.eq
              · intro w' hx; (try dsimp only [List.nil_append, List.cons_append, DepsL, DepsL1, setO, setN, favs, opsOf]); go_wp2; exact OpPostE.some _ rfl rfl (Ext.refl _) rfl
              with_reducible apply FromM.eq
              · intro w' hx; (try dsimp only [List.nil_append, List.cons_append, DepsL, DepsL1, setO, setN, favs, opsOf]); go_wp2; exact OpPostE.some _ rfl rfl (Ext.refl _) rfl
              with_reducible apply FromM.eq
              · intro w' hx; have h0x := hx.cell h0; have khx := hx.cell kh; have kex := hx.cell ke; (try dsimp only [List.nil_append, List.cons_append, DepsL, DepsL1, setO, setN, favs, opsOf]); go_wp2; exact OpPostE.some _ rfl rfl (Ext.refl _) rfl
              with_reducible apply FromM.eq
              · intro w' hx; (try dsimp only [List.nil_append, List.cons_append, DepsL, DepsL1, setO, setN, favs, opsOf]); go_wp2; exact OpPostE.some _ rfl rfl (Ext.refl _) rfl
              with_reducible apply FromM.eq
              · intro w' hx; (try dsimp only [List.nil_append, List.cons_append, DepsL, DepsL1, setO, setN, favs, opsOf]); go_wp2; exact OpPostE.some _ rfl rfl (Ext.refl _) rfl
              with_reducible apply FromM.eq
              · intro w' hx; have h0x := hx.cell h0; have khx := hx.cell kh; have kex := hx.cell ke; (try dsimp only [List.nil_append, List.cons_append, DepsL, DepsL1, setO, setN, favs, opsOf]); go_wp2; exact OpPostE.some _ rfl rfl (Ext.refl _) rfl
              with_reducible apply FromM.eq
              · intro w' hx; (try dsimp only [List.nil_append, List.cons_append, DepsL, DepsL1, setO, setN, favs, opsOf]); refine op_call 44 [.tmp 68, .tmp 69, .tmp 76] _ _ _ rfl rfl rfl rfl rfl rfl (fun _ _ => Try.call44 _ _) (Mul_c _ _ _ _) (fun e w2 h_ => ?_); obtain ⟨rfl, hb2⟩ := h_; exact ⟨_, rfl, hb2, rfl⟩
              with_reducible apply FromM.eq
              · intro w' hx; (try dsimp only [List.nil_append, List.cons_append, DepsL, DepsL1, setO, setN, favs, opsOf]); go_wp2; exact OpPostE.some _ rfl rfl (Ext.refl _) rfl
              with_reducible refine FromM.fin ?_
              intro w' hx
              (try dsimp only [List.nil_append, List.cons_append, EndL, DepsL1, setO, setN])
              replace h0 := hx.cell h0
              replace kh := hx.cell kh
              replace ke := hx.cell ke
              have HE := Lib.hid (HE.out.grow hx)
              clear hx
              obtain ⟨wq, hwq⟩ : ∃ q : World, q = w' := ⟨_, rfl⟩
              subst hwq
              go_wp2_with fail
              refine region_factsL [[], [], [], [(1, 79), (2, 80)], [(3, 81)], [], [(4, 82), (5, 83)], [(6, 84)], [(0, 78), (7, 85)], [(8, 86)]] [some 78, some 79, some 80, some 81, some 82, some 83, some 84, some 85, some 86, some 13] [false, true, false, true, false, false, false, false, false, false, true, true, false, false, false, false, false, false, false, false, false, false, false, false, false, false, false, false, false, false, false, false, false, false, false, false, false, false, false, false, false, false, false, false, false, false, false, false, false, false, false, false, false, false, false, false, false, false, false, false, false, false, false, false, false, false, false, false, false, false, false, false, false, false, false, false, false, false, false, false, false, false, false, false, false, false, false, false, false, false, false, false, false, false, false, false, false, false, false, false, false, false, false, false, false, false, false, false, false, false, false, false, false, false, false, false, false, false, false, false, false, false, false, false, false, false, false, false, false, false, false, false, false, false, false, false, false, false, false, false, false, false, false, false, false, false, false, false, false, false, false, false, false, false, false, false, false, false, false, false, false] (by kernel_rfl) (by kernel_rfl) (by kernel_rfl) ?_
              dsimp only [maskL]
              with_reducible apply FromM.eq
              · intro w' hx; have h0x := hx.cell h0; have khx := hx.cell kh; have kex := hx.cell ke; (try dsimp only [List.nil_append, List.cons_append, DepsL, DepsL1, setO, setN, favs, opsOf]); go_wp2; exact OpPostE.some _ rfl rfl (Ext.refl _) rfl
              with_reducible apply FromM.eq
              · intro w' hx; (try dsimp only [List.nil_append, List.cons_append, DepsL, DepsL1, setO, setN, favs, opsOf]); go_wp2; exact OpPostE.some _ rfl rfl (Ext.refl _) rfl
              with_reducible apply FromM.eq
              · intro w' hx; (try dsimp only [List.nil_append, List.cons_append, DepsL, DepsL1, setO, setN, favs, opsOf]); go_wp2; exact OpPostE.some _ rfl rfl (Ext.refl _) rfl
              with_reducible apply FromM.eq
              · intro w' hx; (try dsimp only [List.nil_append, List.cons_append, DepsL, DepsL1, setO, setN, favs, opsOf]); go_wp2; exact OpPostE.some _ rfl rfl (Ext.refl _) rfl
              with_reducible apply FromM.eq
              · intro w' hx; have h0x := hx.cell h0; have khx := hx.cell kh; have kex := hx.cell ke; (try dsimp only [List.nil_append, List.cons_append, DepsL, DepsL1, setO, setN, favs, opsOf]); go_wp2; exact OpPostE.some _ rfl rfl (Ext.refl _) rfl
              with_reducible apply FromM.eq
              · intro w' hx; (try dsimp only [List.nil_append, List.cons_append, DepsL, DepsL1, setO, setN, favs, opsOf]); go_wp2; exact OpPostE.some _ rfl rfl (Ext.refl _) rfl
              with_reducible apply FromM.eq
              · intro w' hx; (try dsimp only [List.nil_append, List.cons_append, DepsL, DepsL1, setO, setN, favs, opsOf]); go_wp2; exact OpPostE.some _ rfl rfl (Ext.refl _) rfl
              with_reducible apply FromM.eq
              · intro w' hx; have h0x := hx.cell h0; have khx := hx.cell kh; have kex := hx.cell ke; (try dsimp only [List.nil_append, List.cons_append, DepsL, DepsL1, setO, setN, favs, opsOf]); go_wp2; exact OpPostE.some _ rfl rfl (Ext.refl _) rfl
              with_reducible apply FromM.eq
              · intro w' hx; (try dsimp only [List.nil_append, List.cons_append, DepsL, DepsL1, setO, setN, favs, opsOf]); refine op_call 43 [.tmp 78, .tmp 85] _ _ _ rfl rfl rfl rfl rfl rfl (fun _ _ => Try.call43 _ _) (Inv_c _ _ _) (fun e w2 h_ => ?_); obtain ⟨rfl, hb2⟩ := h_; exact ⟨_, rfl, hb2, rfl⟩
              with_reducible apply FromM.eq
              · intro w' hx; (try dsimp only [List.nil_append, List.cons_append, DepsL, DepsL1, setO, setN, favs, opsOf]); go_wp2; exact OpPostE.some _ rfl rfl (Ext.refl _) rfl
              with_reducible refine FromM.fin ?_
              intro w' hx
              (try dsimp only [List.nil_append, List.cons_append, EndL, DepsL1, setO, setN])
              replace kh := hx.cell kh
              have HE := Lib.hid (HE.out.grow hx)
              clear hx h0 ke
              obtain ⟨wr2, hwq⟩ : ∃ q : World, q = w' := ⟨_, rfl⟩
              subst hwq
              obtain ⟨inv, hinv⟩ : ∃ q, q = finv p x := ⟨_, rfl⟩
              rw [← hinv]
              have HINV := Lib.hid hinv
              have HRL : Hid ((R1.getD t []).length = W) := Lib.hid (HR1.out.len t HTR.out)
              clear hinv
              go_wp2_with fail
              clear kh
              go_loopw [92] (NrRel w0 p hb gm inv t W L1 R1 (.slice a8 t c8) (piv.map Int.ofNat)) (fun s _ => W - (intOf s).toNat)
              case atStart =>
                refine ⟨0, rfl, Nat.zero_le _, ?_⟩
                rw [nrK_zero, set_self HTR.out]; exact HE.out
              case round =>
                clear HE
                obtain ⟨j, rfl, hj, hE⟩ := hrel
                have HEb := Lib.hid hE
                clear hE
                have SA : Hid ((R1.set t (nrK p inv (R1.getD t []) j)).getD t [] = nrK p inv (R1.getD t []) j) := Lib.hid (set_at HTR.out)
                have SL : Hid (t < (R1.set t (nrK p inv (R1.getD t []) j)).length) := Lib.hid (by rw [List.length_set]; exact HTR.out)
                by_cases hjW : j < W
                · have h0 := HEb.out.box
                  have kh := HEb.out.mat.head SL.out
                  rw [SA.out, nrK_len, HRL.out, ← HGT.out, ← HCT.out] at kh
                  have k2 := HEb.out.mat.at (i := t) (j := j) SL.out (by rw [SA.out, nrK_len, HRL.out]; exact hjW)
                  rw [SA.out, nrK_at (by rw [HRL.out]; exact hjW), ← HGT.out] at k2
                  have E2 : Hid ((R1.set t (nrK p inv (R1.getD t []) j)).set t ((nrK p inv (R1.getD t []) j).set j (fmul p ((R1.getD t []).getD j 0) inv)) = R1.set t (nrK p inv (R1.getD t []) (j + 1))) := Lib.hid (by rw [nrK_step, List.set_set])
                  obtain ⟨y, hy⟩ : ∃ q, q = (R1.getD t []).getD j 0 := ⟨_, rfl⟩
                  rw [← hy] at k2 E2
                  clear hy
                  go_wp2_with fail
                  refine region_factsL [[], [], [(0, 97), (1, 98)], [(2, 99)], [], [], [], [], [(5, 102), (6, 103), (7, 104)]] [some 97, some 98, some 99, some 100, some 101, some 102, some 103, some 104, some 105] [false, true, false, true, false, false, false, false, false, false, false, true, false, true, true, true, false, false, false, false, false, false, false, false, false, false, false, false, false, false, false, false, false, false, false, false, false, false, false, false, false, false, false, false, false, false, false, false, false, false, false, false, false, false, false, false, false, false, false, false, false, false, false, false, false, false, false, false, false, false, false, false, false, false, false, false, false, false, false, false, false, false, false, false, false, false, false, false, false, false, false, false, false, false, false, false, false, false, false, false, false, false, false, false, false, false, false, false, false, false, false, false, false, false, false, false, false, false, false, false, false, false, false, false, false, false, false, false, false, false, false, false, false, false, false, false, false, false, false, false, false, false, false, false, false, false, false, false, false, false, false, false, false, false, false, false, false, false, false, false, false] (by kernel_rfl) (by kernel_rfl) (by kernel_rfl) ?_
                  dsimp only [maskL]
                  with_reducible apply FromM.eq
                  · intro w' hx; (try dsimp only [List.nil_append, List.cons_append, DepsL, DepsL1, setO, setN, favs, opsOf]); go_wp2; exact OpPostE.some _ rfl rfl (Ext.refl _) rfl
                  with_reducible apply FromM.eq
                  · intro w' hx; (try dsimp only [List.nil_append, List.cons_append, DepsL, DepsL1, setO, setN, favs, opsOf]); go_wp2; exact OpPostE.some _ rfl rfl (Ext.refl _) rfl
                  with_reducible apply FromM.eq
                  · intro w' hx; (try dsimp only [List.nil_append, List.cons_append, DepsL, DepsL1, setO, setN, favs, opsOf]); go_wp2; exact OpPostE.some _ rfl rfl (Ext.refl _) rfl
                  with_reducible apply FromM.eq
                  · intro w' hx; have h0x := hx.cell h0; have khx := hx.cell kh; (try dsimp only [List.nil_append, List.cons_append, DepsL, DepsL1, setO, setN, favs, opsOf]); go_wp2; exact OpPostE.some _ rfl rfl (Ext.refl _) rfl
                  with_reducible apply FromM.eq
                  · intro w' hx; (try dsimp only [List.nil_append, List.cons_append, DepsL, DepsL1, setO, setN, favs, opsOf]); go_wp2; exact OpPostE.some _ rfl rfl (Ext.refl _) rfl
                  with_reducible apply FromM.eq
                  · intro w' hx; have h0x := hx.cell h0; have khx := hx.cell kh; (try dsimp only [List.nil_append, List.cons_append, DepsL, DepsL1, setO, setN, favs, opsOf]); go_wp2; exact OpPostE.some _ rfl rfl (Ext.refl _) rfl
                  with_reducible apply FromM.eq
                  · intro w' hx; (try dsimp only [List.nil_append, List.cons_append, DepsL, DepsL1, setO, setN, favs, opsOf]); go_wp2; exact OpPostE.some _ rfl rfl (Ext.refl _) rfl
                  with_reducible apply FromM.eq
                  · intro w' hx; (try dsimp only [List.nil_append, List.cons_append, DepsL, DepsL1, setO, setN, favs, opsOf]); go_wp2; exact OpPostE.some _ rfl rfl (Ext.refl _) rfl
                  with_reducible apply FromM.eq
                  · intro w' hx; (try dsimp only [List.nil_append, List.cons_append, DepsL, DepsL1, setO, setN, favs, opsOf]); refine op_call 44 [.tmp 102, .tmp 103, .tmp 104] _ _ _ rfl rfl rfl rfl rfl rfl (fun _ _ => Try.call44 _ _) (Mul_c _ _ _ _) (fun e w2 h_ => ?_); obtain ⟨rfl, hb2⟩ := h_; exact ⟨_, rfl, hb2, rfl⟩
                  with_reducible refine FromM.fin ?_
                  intro w' hx
                  (try dsimp only [List.nil_append, List.cons_append, EndL, DepsL1, setO, setN])
                  have M6 := HEb.out.grow hx
                  have f6 := (M6.mat.row t SL.out).arr.frozen j
                  have k6 := M6.mat.at (i := t) (j := j) SL.out (by rw [SA.out, nrK_len, HRL.out]; exact hjW)
                  have S6 := M6.set (i := t) SL.out j (fmul p y inv) (by rw [SA.out, nrK_len, HRL.out]; exact hjW)
                  rw [SA.out, E2.out, ← HGT.out] at S6
                  rw [← HGT.out] at f6 k6
                  rw [SA.out, nrK_at (by rw [HRL.out]; exact hjW)] at k6
                  have HS6 := Lib.hid S6
                  clear M6 S6 hx h0 kh k2
                  go_wp2_with fail
                  go_roundw
                  case rel => exact ⟨j + 1, by go_num, by omega, HS6.out⟩
                  case measure => simp [intOf]; omega
                · obtain rfl : j = W := by omega
                  have hE := HEb.out
                  rw [HINV.out, HX0.out, nrR_set HRL.out] at hE
                  have HEc := Lib.hid hE
                  clear hE HEb
                  obtain ⟨R2, hR2⟩ : ∃ q, q = nrR p R1 c t := ⟨_, rfl⟩
                  rw [← hR2] at HEc
                  have HN2 : Hid (R2.length = n) := Lib.hid (by rw [hR2, nrR_len]; exact HN1.out)
                  have HR2 : Hid (Redd p j R2) := Lib.hid (by rw [hR2]; exact Redd.nr V.out HR1.out c HTR.out)
                  have HST : Hid (stepE p c (rows, piv, fac) = (elK p c t R2 n, piv ++ [c], fmul p fac1 x)) := Lib.hid (by rw [HST.out, hR2, HX0.out])
                  have HT2 : Hid (t < R2.length) := Lib.hid (by rw [HN2.out]; exact htn)
                  clear hR2 SA SL
                  go_wp2_with fail
                  go_loopw [110] (ElkRel w0 p hb gm c t n L1 R2 (.slice a8 t c8) (piv.map Int.ofNat)) (fun s _ => n - (intOf s).toNat)
                  case atStart =>
                    refine ⟨0, rfl, Nat.zero_le _, ?_⟩
                    rw [elK_zero]; exact HEc.out
                  case round =>
                    clear HEc
                    obtain ⟨i, rfl, hi, hE⟩ := hrel
                    have HEd := Lib.hid hE
                    clear hE
                    have HLK : Hid ((elK p c t R2 i).length = n) := Lib.hid (by rw [elK_len]; exact HN2.out)
                    by_cases hin : i < n
                    · have hiR : i < R2.length := by rw [HN2.out]; exact hin
                      have hiE : i < (elK p c t R2 i).length := by rw [HLK.out]; exact hin
                      have htE : t < (elK p c t R2 i).length := by rw [HLK.out]; exact htn
                      have RI : Hid ((elK p c t R2 i).getD i [] = R2.getD i []) := Lib.hid (elK_row hiR)
                      have RT : Hid ((elK p c t R2 i).getD t [] = R2.getD t []) := Lib.hid (elK_top HT2.out)
                      have RIL : Hid ((R2.getD i []).length = j) := Lib.hid (HR2.out.len i hiR)
                      have RTL : Hid ((R2.getD t []).length = j) := Lib.hid (HR2.out.len t HT2.out)
                      have kh := HEd.out.mat.head hiE
                      rw [RI.out, RIL.out] at kh
                      have kt := HEd.out.mat.head htE
                      rw [RT.out, RTL.out, ← HGT.out, ← HCT.out] at kt
                      have ke := HEd.out.mat.at (i := i) (j := c) hiE (by rw [RI.out, RIL.out]; omega)
                      rw [RI.out] at ke
                      obtain ⟨gi, hgi⟩ : ∃ q, q = rowG L1 i := ⟨_, rfl⟩
                      rw [← hgi] at kh ke
                      have HGI := Lib.hid hgi
                      obtain ⟨ci, hci⟩ : ∃ q, q = (L1.getD i (none, 0, 0)).2.2 := ⟨_, rfl⟩
                      rw [← hci] at kh
                      have HIR := Lib.hid (And.intro hiR (And.intro hiE htE))
                      clear hgi hci hiR hiE htE
                      by_cases hit : i = t
                      · have HK : Hid (elK p c t R2 (i + 1) = elK p c t R2 i) := Lib.hid (elK_keep HIR.out.1 (.inl hit))
                        clear ke kt
                        obtain rfl : i = t := hit
                        go_wp2_with fail
                        go_roundw
                        case rel => exact ⟨i + 1, by go_num, by omega, by rw [HK.out]; exact HEd.out⟩
                        case measure => simp [intOf]; omega
                      · have tit : ((i : Int) == (t : Int)) = false := beq_eq_false_iff_ne.2 (by omega)
                        by_cases hz : (R2.getD i []).getD c 0 = 0
                        · have HK : Hid (elK p c t R2 (i + 1) = elK p c t R2 i) := Lib.hid (elK_keep HIR.out.1 (.inr hz))
                          rw [hz] at ke
                          clear kt hz
                          go_wp2_with fail
                          go_roundw
                          case rel => exact ⟨i + 1, by go_num, by omega, by rw [HK.out]; exact HEd.out⟩
                          case measure => simp [intOf]; omega
                        · have HK := Lib.hid (elK_do HIR.out.1 hit hz RIL.out (p := p))
                          obtain ⟨e, he⟩ : ∃ q, q = (R2.getD i []).getD c 0 := ⟨_, rfl⟩
                          rw [← he] at ke hz HK
                          have tz : ((e : Int) == 0) = false := beq_eq_false_iff_ne.2 (by omega)
                          have HIT := Lib.hid hit
                          clear he hit hz
                          go_wp2_with fail
                          clear kt ke kh tz tit
                          go_loopw [134] (EljRel w0 p hb gm i e j (R2.getD t []) (R2.getD i []) L1 (elK p c t R2 i) (.slice a8 t c8) (piv.map Int.ofNat)) (fun s _ => j - (intOf s).toNat)
                          case atStart =>
                            refine ⟨0, rfl, Nat.zero_le _, ?_⟩
                            rw [elJ_zero, ← RI.out, set_self HIR.out.2.1]; exact HEd.out
                          case round =>
                            clear HEd
                            obtain ⟨k, rfl, hk, hE⟩ := hrel
                            have HEe := Lib.hid hE
                            clear hE
                            by_cases hkW : k < j
                            · have SA := Lib.hid (set_at (d := []) HIR.out.2.1 (x := elJ p e (R2.getD t []) (R2.getD i []) k))
                              have SO := Lib.hid (set_off (d := []) (k := t) HIR.out.2.1 (fun q => HIT.out q.symm) (x := elJ p e (R2.getD t []) (R2.getD i []) k))
                              have SI : Hid (i < ((elK p c t R2 i).set i (elJ p e (R2.getD t []) (R2.getD i []) k)).length) := Lib.hid (by rw [List.length_set]; exact HIR.out.2.1)
                              have ST : Hid (t < ((elK p c t R2 i).set i (elJ p e (R2.getD t []) (R2.getD i []) k)).length) := Lib.hid (by rw [List.length_set]; exact HIR.out.2.2)
                              have h0 := HEe.out.box
                              have ki := HEe.out.mat.at (i := i) (j := k) SI.out (by rw [SA.out, elJ_len, RIL.out]; exact hkW)
                              rw [SA.out, elJ_at (by rw [RIL.out]; exact hkW), ← HGI.out] at ki
                              have kt := HEe.out.mat.at (i := t) (j := k) ST.out (by rw [SO.out, RT.out, RTL.out]; exact hkW)
                              rw [SO.out, RT.out, ← HGT.out] at kt
                              have E2 : Hid (((elK p c t R2 i).set i (elJ p e (R2.getD t []) (R2.getD i []) k)).set i ((elJ p e (R2.getD t []) (R2.getD i []) k).set k (fsub p ((R2.getD i []).getD k 0) (fmul p e ((R2.getD t []).getD k 0)))) = (elK p c t R2 i).set i (elJ p e (R2.getD t []) (R2.getD i []) (k + 1))) := Lib.hid (by rw [elJ_step, List.set_set])
                              obtain ⟨y, hy⟩ : ∃ q, q = (R2.getD i []).getD k 0 := ⟨_, rfl⟩
                              obtain ⟨z, hz⟩ : ∃ q, q = (R2.getD t []).getD k 0 := ⟨_, rfl⟩
                              rw [← hy] at ki E2
                              rw [← hz] at kt E2
                              have HY := Lib.hid hy
                              clear hy hz
                              go_wp2_with fail
                              clear kt
                              refine region_factsL [[], [], [], [], [], [(3, 142), (4, 143)], [(5, 144)], [], [], [], [(7, 146), (8, 147), (9, 148)], [(2, 141), (6, 145), (10, 149)]] [some 139, some 140, some 141, some 142, some 143, some 144, some 145, some 146, some 147, some 148, some 149, some 150] [false, false, false, true, false, false, false, false, false, false, false, false, false, false, false, false, false, true, true, true, true, false, false, false, false, false, false, false, false, false, false, false, false, false, false, false, false, false, false, false, false, false, false, false, false, false, false, false, false, false, false, false, false, false, false, false, false, false, false, false, false, false, false, false, false, false, false, false, false, false, false, false, false, false, false, false, false, false, false, false, false, false, false, false, false, false, false, false, false, false, false, false, false, false, false, false, false, false, false, false, false, false, false, false, false, false, false, false, false, false, false, false, false, false, false, false, false, false, false, false, false, false, false, false, false, false, false, false, false, false, false, false, false, false, false, false, false, false, false, false, false, false, false, false, false, false, false, false, false, false, false, false, false, false, false, false, false, false, false, false, false] (by kernel_rfl) (by kernel_rfl) (by kernel_rfl) ?_
                              dsimp only [maskL]
                              with_reducible apply FromM.eq
                              · intro w' hx; (try dsimp only [List.nil_append, List.cons_append, DepsL, DepsL1, setO, setN, favs, opsOf]); go_wp2; exact OpPostE.some _ rfl rfl (Ext.refl _) rfl
                              with_reducible apply FromM.eq
                              · intro w' hx; (try dsimp only [List.nil_append, List.cons_append, DepsL, DepsL1, setO, setN, favs, opsOf]); go_wp2; exact OpPostE.some _ rfl rfl (Ext.refl _) rfl
                              with_reducible apply FromM.eq
                              · intro w' hx; have h0x := hx.cell h0; have kix := hx.cell ki; (try dsimp only [List.nil_append, List.cons_append, DepsL, DepsL1, setO, setN, favs, opsOf]); go_wp2; exact OpPostE.some _ rfl rfl (Ext.refl _) rfl
                              with_reducible apply FromM.eq
                              · intro w' hx; (try dsimp only [List.nil_append, List.cons_append, DepsL, DepsL1, setO, setN, favs, opsOf]); go_wp2; exact OpPostE.some _ rfl rfl (Ext.refl _) rfl
                              with_reducible apply FromM.eq
                              · intro w' hx; (try dsimp only [List.nil_append, List.cons_append, DepsL, DepsL1, setO, setN, favs, opsOf]); go_wp2; exact OpPostE.some _ rfl rfl (Ext.refl _) rfl
                              with_reducible apply FromM.eq
                              · intro w' hx; (try dsimp only [List.nil_append, List.cons_append, DepsL, DepsL1, setO, setN, favs, opsOf]); go_wp2; exact OpPostE.some _ rfl rfl (Ext.refl _) rfl
                              with_reducible apply FromM.eq
                              · intro w' hx; have h0x := hx.cell h0; have kix := hx.cell ki; (try dsimp only [List.nil_append, List.cons_append, DepsL, DepsL1, setO, setN, favs, opsOf]); go_wp2; exact OpPostE.some _ rfl rfl (Ext.refl _) rfl
                              with_reducible apply FromM.eq
                              · intro w' hx; have h0x := hx.cell h0; have kix := hx.cell ki; (try dsimp only [List.nil_append, List.cons_append, DepsL, DepsL1, setO, setN, favs, opsOf]); go_wp2; exact OpPostE.some _ rfl rfl (Ext.refl _) rfl
                              with_reducible apply FromM.eq
                              · intro w' hx; (try dsimp only [List.nil_append, List.cons_append, DepsL, DepsL1, setO, setN, favs, opsOf]); go_wp2; exact OpPostE.some _ rfl rfl (Ext.refl _) rfl
                              with_reducible apply FromM.eq
                              · intro w' hx; (try dsimp only [List.nil_append, List.cons_append, DepsL, DepsL1, setO, setN, favs, opsOf]); go_wp2; exact OpPostE.some _ rfl rfl (Ext.refl _) rfl
                              with_reducible apply FromM.eq
                              · intro w' hx; (try dsimp only [List.nil_append, List.cons_append, DepsL, DepsL1, setO, setN, favs, opsOf]); refine op_call 44 [.tmp 146, .tmp 147, .tmp 148] _ _ _ rfl rfl rfl rfl rfl rfl (fun _ _ => Try.call44 _ _) (Mul_c _ _ _ _) (fun e w2 h_ => ?_); obtain ⟨rfl, hb2⟩ := h_; exact ⟨_, rfl, hb2, rfl⟩
                              with_reducible apply FromM.eq
                              · intro w' hx; (try dsimp only [List.nil_append, List.cons_append, DepsL, DepsL1, setO, setN, favs, opsOf]); refine op_call 68 [.tmp 141, .tmp 145, .tmp 149] _ _ _ rfl rfl rfl rfl rfl rfl (fun _ _ => Try.call68 _ _) (Sub_c _ _ _ _) (fun e w2 h_ => ?_); obtain ⟨rfl, hb2⟩ := h_; exact ⟨_, rfl, hb2, rfl⟩
                              with_reducible refine FromM.fin ?_
                              intro w' hx
                              (try dsimp only [List.nil_append, List.cons_append, EndL, DepsL1, setO, setN])
                              have M6 := HEe.out.grow hx
                              have f6 := (M6.mat.row i SI.out).arr.frozen k
                              have k6 := M6.mat.at (i := i) (j := k) SI.out (by rw [SA.out, elJ_len, RIL.out]; exact hkW)
                              have S6 := M6.set (i := i) SI.out k (fsub p y (fmul p e z)) (by rw [SA.out, elJ_len, RIL.out]; exact hkW)
                              rw [SA.out, E2.out, ← HGI.out] at S6
                              rw [← HGI.out] at f6 k6
                              rw [SA.out, elJ_at (by rw [RIL.out]; exact hkW)] at k6
                              have HS6 := Lib.hid S6
                              clear M6 S6 hx h0 ki
                              go_wp2_with fail
                              go_roundw
                              case rel => exact ⟨k + 1, by go_num, by omega, HS6.out⟩
                              case measure => simp [intOf]; omega
                            · obtain rfl : k = j := by omega
                              have hE := HEe.out
                              rw [HK.out] at hE
                              have HEf := Lib.hid hE
                              clear hE HEe
                              go_wp2_with fail
                              go_roundw
                              case rel => exact ⟨i + 1, by go_num, by omega, HEf.out⟩
                              case measure => simp [intOf]; omega
                    · obtain rfl : i = n := by omega
                      have HA := Lib.hid (HEd.out.grow ((Ext.refl _).alloc (.cells #[.int .i64 (c : Int)] 3)))
                      have HSZ := Lib.hid HEd.out.size
                      go_wp2_with (at_builtin; refine wpList_app1I rfl (.tmp 154) (.tmp 156) rfl (hb + 1) _ (piv.map Int.ofNat) rfl HA.out.piv wr.heap.size (c : Int) 1 rfl (by simp) (by rw [List.length_map, ← HT.out]; omega) (by have := HA.out.size; omega) ?_; intro v' w6 ho6 hx6 hk6; have HO6 := Lib.hid (HA.out.app HW0.out hx6 hk6 ho6); clear ho6 hx6 hk6)
                      go_roundw
                      case rel =>
                        refine ⟨c + 1, L1, by go_num, by omega, ?_, ?_⟩
                        · rw [show elimE p r0 (c + 1) = stepE p c (elimE p r0 c) from rfl, HS.out, HST.out]
                        · rw [show elimE p r0 (c + 1) = stepE p c (elimE p r0 c) from rfl, HS.out, HST.out]
                          simp only [List.map_append, List.map_cons, List.map_nil]
                          exact HO6.out
                      case measure => simp [intOf]; omega
        · obtain rfl : k = n := by omega
          have HFN : Hid (F = k) := Lib.hid (findP_none HFK.out)
          have HK : Hid (elimE p r0 (c + 1) = (rows, piv, fac)) := Lib.hid (by
            rw [show elimE p r0 (c + 1) = stepE p c (elimE p r0 c) from rfl, HS.out]
            exact stepE_skip (by rw [← HT.out, ← HF.out, HN.out]; exact HFN.out))
          go_wp2_with fail
          go_roundw
          case rel => exact ⟨c + 1, L, by go_num, by omega, by rw [HK.out], by rw [HK.out]; exact HE.out⟩
          case measure => simp [intOf]; omega
    · obtain rfl : c = width := by omega
      have HK := Lib.hid HS.out
      go_wp2_with fail
      go_returns
      rw [HK.out]
      exact ⟨_, L, rfl, HE.out⟩
end Go.Proofs.Ytcnbinjoeilfgaa
