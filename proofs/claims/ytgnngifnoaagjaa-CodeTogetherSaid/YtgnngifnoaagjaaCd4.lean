/- Contracts of package code: nearest, Nearest. -/
import Derived.Test.YtgnngifnoaagjaaCd3
import Derived.Test.YtgnngifnoaagjaaGS
namespace Go.Proofs.Ytgnngifnoaagjaa
open Go.RowKit

theorem DivMod_any (p : Nat) (l m : List Nat) (a b : Option Addr) (c d : Nat) (w : World) (hv : vld p = true) (ha : Rd w a l) (hb : Rd w b m) (hl : l.length ≤ 100000) (hm : m.length ≤ 100000) (h0 : 0 < (trimP p m).length) :
    Calls Try.prog 70 #[.agg #[.int .u64 p], .slice a l.length c, .slice b m.length d] w (DMPost w (pquo p l m) (prem p l m) 0) := by
  by_cases h : (trimP p l).length < (trimP p m).length
  · have := DivMod_short p l m a b c d w hv ha hb (by omega) (by omega) (by omega) h
    have e1 : pquo p l m = [] := by unfold pquo; rw [if_pos h]
    have e2 : prem p l m = trimP p l := by unfold prem; rw [if_pos h]
    rw [e1, e2]; exact this
  · exact DivMod_long p l m a b c d w hv ha hb (by omega) (by omega) (by omega) (by omega)
theorem pmul_le (p : Nat) (a b : List Nat) : (pmul p a b).length ≤ a.length + b.length := by
  unfold pmul; split
  · simp
  · refine Nat.le_trans (trimZ_le _) ?_
    rw [tab_len]
    have h1 := trimP_le p a
    have h2 := trimP_le p b
    omega
theorem pquo_le (p : Nat) (a b : List Nat) (h0 : 0 < (trimP p b).length) : (pquo p a b).length ≤ a.length := by
  unfold pquo; split
  · simp
  · refine Nat.le_trans (trimZ_le _) ?_
    rw [tab_len]; unfold dvN
    have h1 := trimP_le p a
    omega
theorem prem_le (p : Nat) (a b : List Nat) : (prem p a b).length ≤ a.length := by
  have h1 := trimP_le p a
  unfold prem; split
  · exact h1
  · refine Nat.le_trans (trimZ_le _) ?_
    rw [tab_len]; exact h1
theorem subL_le (p : Nat) (a b : List Nat) : (trimZ (subL p a b)).length ≤ max a.length b.length := by
  refine Nat.le_trans (trimZ_le _) ?_
  simp [subL]

/-- The steps of the decoder: the rest and the factor that it ends with. -/
def gao (p S : Nat) : Nat → List Nat → List Nat → List Nat → List Nat → List Nat × List Nat
  | 0, _, rest, _, fac => (rest, fac)
  | f + 1, old, rest, oldF, fac => if S + 2 ≤ 2 * rest.length then gao p S f rest (prem p old rest) fac (trimZ (subL p oldF (pmul p (pquo p old rest) fac))) else (rest, fac)
def gaoE (p N K : Nat) (l : List Nat) : List Nat × List Nat := gao p (N + K) (cpoly p N l).length (cvan p N) (cpoly p N l) [] [1]
def nearM (p N K : Nat) (l : List Nat) (e : Int) : Option (List Nat) :=
  if (trimP p (gaoE p N K l).2).length = 0 then none
  else if 0 < (prem p (gaoE p N K l).1 (gaoE p N K l).2).length ∨ K < (pquo p (gaoE p N K l).1 (gaoE p N K l).2).length then none
  else if e < (dist (cword p N (pquo p (gaoE p N K l).1 (gaoE p N K l).2)) (l.map (fred p)) : Nat) then none
  else some (cword p N (pquo p (gaoE p N K l).1 (gaoE p N K l).2))
def NPost (w : World) (o : Option (List Nat)) (e : Ending) (w' : World) : Prop :=
  ∃ v, e = .returned (.tuple #[v, .bool o.isSome]) ∧ Own w' w.heap.size v (o.getD []) ∧ Ext w w'
def NrRel (p S : Nat) (G : List Nat × List Nat) (w w1 : World) (old rest oldF fac : Value) (wr : World) : Prop :=
  ∃ (f : Nat) (a b c d : List Nat), gao p S f a b c d = G ∧ b.length ≤ f ∧ a.length ≤ 257 ∧ b.length ≤ 257 ∧ trimP p b = b ∧ d.length + 300 * b.length ≤ 90000 ∧ c.length + 300 * b.length ≤ 90000 ∧
    Own wr w.heap.size old a ∧ Own wr w.heap.size rest b ∧ Own wr w.heap.size oldF c ∧ Own wr w.heap.size fac d ∧ Ext w1 wr
def lenV : Value → Nat
  | .slice _ n _ => n
  | _ => 0
theorem gao_stop {p S f : Nat} {a b c d : List Nat} (h : ¬ S + 2 ≤ 2 * b.length) : gao p S f a b c d = (b, d) := by
  cases f with
  | zero => rfl
  | succ f => rw [gao, if_neg h]
theorem trimPP (p : Nat) (l : List Nat) : trimP p (trimP p l) = trimP p l := by
  cases hv : vld p
  · rw [Q.inv_zero hv, Q.inv_zero hv]
  · exact (Q.Nf.trim hv l).id hv

set_option maxRecDepth 100000 in
set_option maxHeartbeats 2000000 in
theorem nearest_c (p N K : Nat) (l : List Nat) (e : Int) (a : Option Addr) (c : Nat) (w : World) (h : WIn p N) (ha : Rd w a l) (hl : l.length = N) (hN : N ≤ 256) (hK1 : 1 ≤ K) (hK2 : K ≤ N) :
    Calls Try.prog 49 #[.agg #[.int .u64 p, .int .i64 N, .int .i64 K], .slice a l.length c, .int .i64 e] w (NPost w (nearM p N K l e)) := by
  have HA := Lib.hid ha
  have HW := Lib.hid h
  have VC := Lib.hid (fun w' => vanishing_c p N K w' (by omega))
  have PC := Lib.hid (fun w' (hr : Rd w' a l) => polynomial_c p N K l a c w' HW.out hr hl (by omega))
  have RC := Lib.hid (fun w' (hr : Rd w' a l) => creduced_c p l a c w' hr (by omega))
  have hcl := cvan_len p N
  have hpl : (cpoly p N l).length ≤ 256 := by
    refine Nat.le_trans (trimP_le _ _) ?_
    unfold rintl; rw [tab_len]; exact hN
  have EG : Hid (gao p (N + K) (cpoly p N l).length (cvan p N) (cpoly p N l) [] [1] = gaoE p N K l) := Lib.hid rfl
  have hpt : trimP p (cpoly p N l) = cpoly p N l := trimPP p _
  obtain ⟨V, hV⟩ : ∃ V, V = cvan p N := ⟨_, rfl⟩
  obtain ⟨P, hP⟩ : ∃ P, P = cpoly p N l := ⟨_, rfl⟩
  obtain ⟨G, hG⟩ : ∃ G, G = gaoE p N K l := ⟨_, rfl⟩
  rw [← hV] at VC hcl EG
  rw [← hP] at PC hpl EG hpt
  rw [← hG] at EG
  have EN : Hid (nearM p N K l e = if (trimP p G.2).length = 0 then none else if 0 < (prem p G.1 G.2).length ∨ K < (pquo p G.1 G.2).length then none else if e < (dist (cword p N (pquo p G.1 G.2)) (l.map (fred p)) : Nat) then none else some (cword p N (pquo p G.1 G.2))) := Lib.hid (by rw [hG]; rfl)
  have HPT := Lib.hid hpt
  have HCL := Lib.hid hcl
  have h0 : (w.alloc (.cells #[.int .u64 p, .int .i64 N, .int .i64 K] 31)).cell? ⟨w.heap.size, 0, none⟩ = some (.int .u64 p) := by simp
  have h1 : (w.alloc (.cells #[.int .u64 p, .int .i64 N, .int .i64 K] 31)).cell? ⟨w.heap.size, 1, none⟩ = some (.int .i64 N) := by simp
  have h2 : (w.alloc (.cells #[.int .u64 p, .int .i64 N, .int .i64 K] 31)).cell? ⟨w.heap.size, 2, none⟩ = some (.int .i64 K) := by simp
  have g0 := ((Ext.refl (w.alloc (.cells #[.int .u64 p, .int .i64 N, .int .i64 K] 31))).alloc (.cells #[.int .u64 p] 65)).cell h0
  have g1 := ((Ext.refl (w.alloc (.cells #[.int .u64 p, .int .i64 N, .int .i64 K] 31))).alloc (.cells #[.int .u64 p] 65)).cell h1
  have g2 := ((Ext.refl (w.alloc (.cells #[.int .u64 p, .int .i64 N, .int .i64 K] 31))).alloc (.cells #[.int .u64 p] 65)).cell h2
  have hc : ((w.alloc (.cells #[.int .u64 p, .int .i64 N, .int .i64 K] 31)).alloc (.cells #[.int .u64 p] 65)).cell? ⟨w.heap.size + 1, 0, none⟩ = some (.int .u64 p) := cnew _ _ _ _ _ (by simp)
  have HL := Lib.hid hl
  have hl256 : l.length ≤ 256 := by omega
  clear h ha hV hP hG hpt hcl h0 h1 h2 hl
  go_enter Try.func49, Try.ntmps49
  go_wp2
  refine region_facts [[], [(0, 23)], [], [], [(2, 25), (3, 26)], [(1, 24)], [(4, 27)]] [some 23, some 24, some 25, some 26, some 27, some 9, some 10] (by kernel_rfl) (by kernel_rfl) ?_
  with_reducible apply From.eq
  · intro w' hx; have g0x := hx.cell g0; have g1x := hx.cell g1; have g2x := hx.cell g2; (try dsimp only [List.nil_append, List.cons_append]); dsimp only [DepsV, fat, eqF]; go_wp2; exact OpPost.some _ rfl rfl (Ext.refl _) rfl
  refine From.step (OwnF w.heap.size V) (OwnF.mono) ?_ ?_
  · intro w' hx; have g0x := hx.cell g0; have g1x := hx.cell g1; have g2x := hx.cell g2; (try dsimp only [List.nil_append, List.cons_append]); dsimp only [DepsV, fat, eqF]; rintro _ rfl; skip;
    go_wp2_with (go_at_call 69; refine (VC.out _).mono ?_; rintro e w2 ⟨v, rfl, ho, hn⟩); exact OpPost.some _ rfl rfl hn (ho.base hx.box.box.size)
  with_reducible apply From.eq
  · intro w' hx; have g0x := hx.cell g0; have g1x := hx.cell g1; have g2x := hx.cell g2; (try dsimp only [List.nil_append, List.cons_append]); dsimp only [DepsV, fat, eqF]; go_wp2; exact OpPost.some _ rfl rfl (Ext.refl _) rfl
  with_reducible apply From.eq
  · intro w' hx; have g0x := hx.cell g0; have g1x := hx.cell g1; have g2x := hx.cell g2; (try dsimp only [List.nil_append, List.cons_append]); dsimp only [DepsV, fat, eqF]; go_wp2; exact OpPost.some _ rfl rfl (Ext.refl _) rfl
  refine From.step (OwnF w.heap.size P) (OwnF.mono) ?_ ?_
  · intro w' hx; have g0x := hx.cell g0; have g1x := hx.cell g1; have g2x := hx.cell g2; (try dsimp only [List.nil_append, List.cons_append]); dsimp only [DepsV, fat, eqF]; rintro _ rfl _ rfl; skip;
    go_wp2_with (go_at_call 53; refine (PC.out _ (HA.out.ext hx.box.box)).mono ?_; rintro e w2 ⟨v, rfl, ho, hn⟩); exact OpPost.some _ rfl rfl hn (ho.base hx.box.box.size)
  refine From.step (OwnF w.heap.size V) (OwnF.mono) ?_ ?_
  · intro w' hx; have g0x := hx.cell g0; have g1x := hx.cell g1; have g2x := hx.cell g2; (try dsimp only [List.nil_append, List.cons_append]); dsimp only [DepsV, fat, eqF]; rintro v1 h1; go_wp2; exact OpPost.some _ rfl rfl (Ext.refl _) h1
  refine From.step (OwnF w.heap.size P) (OwnF.mono) ?_ ?_
  · intro w' hx; have g0x := hx.cell g0; have g1x := hx.cell g1; have g2x := hx.cell g2; (try dsimp only [List.nil_append, List.cons_append]); dsimp only [DepsV, fat, eqF]; rintro v4 h4; go_wp2; exact OpPost.some _ rfl rfl (Ext.refl _) h4
  with_reducible refine From.fin ?_
  intro w' hx
  (try dsimp only [List.nil_append, List.cons_append]); dsimp only [EndV, eqF]; rintro _ rfl v1 h1 _ rfl _ rfl v4 h4 v5_ h5_ v6_ h6_; simp only [Act.put, List.setIfInBounds_toArray, List.set_cons_zero, List.set_cons_succ]
  have o1 : Own w' w.heap.size v5_ V := h5_
  have o2 : Own w' w.heap.size v6_ P := h6_
  have HO1 := Lib.hid o1
  have HO2 := Lib.hid o2
  replace g1 := hx.cell g1
  replace g2 := hx.cell g2
  replace g0 := hx.cell g0
  replace hc := hx.cell hc
  have X1 := hx.box.box
  clear h1 h4 h5_ h6_ o1 o2 hx
  go_wp2_with fail
  go_loopw [9, 10, 11, 12] (NrRel p (N + K) G w w') (fun _ r _ _ _ => lenV r)
  case atStart =>
    refine ⟨_, V, P, [], [1], EG.out, Nat.le_refl _, by have := HCL.out; omega, by omega, HPT.out, by simp; omega, by simp; omega, HO1.out.grow ((Ext.refl _).alloc _), HO2.out.grow ((Ext.refl _).alloc _), Own.nil _ _, ?_, (Ext.refl _).alloc _⟩
    have hb : Blk (w'.alloc (.cells #[.int .u64 ((1 : Nat) : Int)] 22)) w'.heap.size (rowA ([1] ++ [])) := Blk.new _ _
    exact Own.ofBlk hb X1.size (by simp [maxLen])
  case round =>
    clear HO1 HO2 EG HPT HCL VC PC
    obtain ⟨f, old, rest, oldF, fac, hE, hf, hb1, hb2, ht, hd1, hd2, q1, q2, q3, q4, hext⟩ := hrel
    obtain ⟨a1, c1, rfl, _, _, r1⟩ := q1.form
    obtain ⟨a2, c2, rfl, _, _, r2⟩ := q2.form
    obtain ⟨a3, c3, rfl, _, _, r3⟩ := q3.form
    obtain ⟨a4, c4, rfl, _, _, r4⟩ := q4.form
    replace g1 := hext.cell g1
    replace g2 := hext.cell g2
    replace g0 := hext.cell g0
    replace hc := hext.cell hc
    have XW := X1.trans hext
    by_cases hlt : N + K + 2 ≤ 2 * rest.length
    · have t1 : decide ((N : Int) + (K : Int) ≤ 2 * ((rest.length : Int) - 1)) = true := decide_eq_true (by omega)
      have hv := HW.out.1
      have hr0 : rest.length ≠ 0 := by omega
      have hNf : Q.Nf p rest := by rw [← ht]; exact Q.Nf.trim hv rest
      have h0t : 0 < (trimP p rest).length := by rw [ht]; omega
      have DM := Lib.hid (DivMod_any p old rest a1 a2 c1 c2 wr hv r1 r2 (by omega) (by omega) h0t)
      obtain ⟨f', rfl⟩ : ∃ f', f = f' + 1 := ⟨f - 1, by omega⟩
      rw [gao, if_pos hlt] at hE
      have k1 := Q.prem_lt hv hNf old hr0
      have k2 := (Q.prem_nf hv hNf old hr0).id hv
      have k3 := pquo_le p old rest h0t
      have k4 := pmul_le p (pquo p old rest) fac
      have k5 := subL_le p oldF (pmul p (pquo p old rest) fac)
      obtain ⟨Qv, hQ⟩ : ∃ Q, Q = pquo p old rest := ⟨_, rfl⟩
      obtain ⟨Rv, hR⟩ : ∃ R, R = prem p old rest := ⟨_, rfl⟩
      rw [← hQ] at k3 k4 k5 hE DM
      rw [← hR] at k1 k2 hE DM
      obtain ⟨M, hM⟩ : ∃ M, M = pmul p Qv fac := ⟨_, rfl⟩
      rw [← hM] at k4 k5 hE
      have HK := Lib.hid (And.intro hE (And.intro k1 (And.intro k2 (And.intro k3 (And.intro k4 k5)))))
      have HR4 := Lib.hid r4
      have HR3 := Lib.hid r3
      have HQ2 := Lib.hid q2
      have HQ4 := Lib.hid q4
      have MC := Lib.hid (fun w' aq cq (x : Ext wr w') (hq : Rd w' aq Qv) => MulP_c p Qv fac aq a4 cq c4 w' hq (HR4.out.ext x) (by have := HK.out.2.2.2.1; omega) (by omega))
      rw [← hM] at MC
      have SC := Lib.hid (fun w' am cm (x : Ext wr w') (hm : Rd w' am M) => SubP_c p oldF M a3 am c3 cm w' (HR3.out.ext x) hm (by omega) (by have := HK.out.2.2.2.1; have := HK.out.2.2.2.2.1; omega))
      obtain ⟨NF, hNF⟩ : ∃ NF, NF = trimZ (subL p oldF M) := ⟨_, rfl⟩
      rw [← hNF] at SC HK
      have hb3 : 1 ≤ rest.length := by omega
      clear hE hlt ht q1 q2 q3 q4 r1 r2 r3 r4 hNf h0t k1 k2 k3 k4 k5 hQ hR hM hNF hr0 hv RC
      go_wp2_with fail
      refine DM.out.mono ?_; rintro e' w3 ⟨vq, vr, rfl, o3, o4, x3⟩
      obtain ⟨aq, cq, rfl, _, _, rq⟩ := o3.form
      have HRQ := Lib.hid rq
      have HO4 := Lib.hid o4
      have hc3 := x3.cell hc
      clear o3 o4 rq
      go_wp2_with fail
      refine region_facts [[], [], [], [], [], [], [(3, 54), (4, 55), (5, 56)], [(1, 52), (2, 53), (6, 57)], [(0, 51)], [(7, 58)]] [some 51, some 52, some 53, some 54, some 55, some 56, some 57, some 58, some 11, some 12] (by kernel_rfl) (by kernel_rfl) ?_
      with_reducible apply From.eq
      · intro w' hx; have hc3x := hx.cell hc3; (try dsimp only [List.nil_append, List.cons_append]); dsimp only [DepsV, fat, eqF]; go_wp2; exact OpPost.some _ rfl rfl (Ext.refl _) rfl
      with_reducible apply From.eq
      · intro w' hx; have hc3x := hx.cell hc3; (try dsimp only [List.nil_append, List.cons_append]); dsimp only [DepsV, fat, eqF]; go_wp2; exact OpPost.some _ rfl rfl (Ext.refl _) rfl
      with_reducible apply From.eq
      · intro w' hx; have hc3x := hx.cell hc3; (try dsimp only [List.nil_append, List.cons_append]); dsimp only [DepsV, fat, eqF]; go_wp2; exact OpPost.some _ rfl rfl (Ext.refl _) rfl
      with_reducible apply From.eq
      · intro w' hx; have hc3x := hx.cell hc3; (try dsimp only [List.nil_append, List.cons_append]); dsimp only [DepsV, fat, eqF]; go_wp2; exact OpPost.some _ rfl rfl (Ext.refl _) rfl
      with_reducible apply From.eq
      · intro w' hx; have hc3x := hx.cell hc3; (try dsimp only [List.nil_append, List.cons_append]); dsimp only [DepsV, fat, eqF]; go_wp2; exact OpPost.some _ rfl rfl (Ext.refl _) rfl
      with_reducible apply From.eq
      · intro w' hx; have hc3x := hx.cell hc3; (try dsimp only [List.nil_append, List.cons_append]); dsimp only [DepsV, fat, eqF]; go_wp2; exact OpPost.some _ rfl rfl (Ext.refl _) rfl
      refine From.step (RdF M) (RdF.mono) ?_ ?_
      · intro w' hx; have hc3x := hx.cell hc3; (try dsimp only [List.nil_append, List.cons_append]); dsimp only [DepsV, fat, eqF]; rintro _ rfl _ rfl _ rfl; skip;
        go_wp2_with (go_at_call 72; refine (MC.out _ _ _ (x3.trans hx) (HRQ.out.ext hx)).mono ?_; rintro e w2 ⟨v, rfl, ho, hn⟩); exact OpPost.some _ rfl rfl hn (RdF.of ho)
      refine From.step (OwnF w.heap.size NF) (OwnF.mono) ?_ ?_
      · intro w' hx; have hc3x := hx.cell hc3; (try dsimp only [List.nil_append, List.cons_append]); dsimp only [DepsV, fat, eqF]; rintro _ rfl; rintro _ rfl; rintro v6 h6; obtain ⟨a6, c6, rfl, _, hr6⟩ := h6;
        go_wp2_with (go_at_call 71; refine (SC.out _ _ _ (x3.trans hx) hr6).mono ?_; rintro e w2 ⟨v, rfl, ho, hn⟩); exact OpPost.some _ rfl rfl hn (ho.base ((XW.trans x3).trans hx).size)
      with_reducible apply From.eq
      · intro w' hx; have hc3x := hx.cell hc3; (try dsimp only [List.nil_append, List.cons_append]); dsimp only [DepsV, fat, eqF]; rintro _ rfl; go_wp2; exact OpPost.some _ rfl rfl (Ext.refl _) rfl
      refine From.step (OwnF w.heap.size NF) (OwnF.mono) ?_ ?_
      · intro w' hx; have hc3x := hx.cell hc3; (try dsimp only [List.nil_append, List.cons_append]); dsimp only [DepsV, fat, eqF]; rintro v7 h7; go_wp2; exact OpPost.some _ rfl rfl (Ext.refl _) h7
      with_reducible refine From.fin ?_
      intro w' hx
      (try dsimp only [List.nil_append, List.cons_append]); dsimp only [EndV, eqF]; rintro _ rfl _ rfl _ rfl _ rfl _ rfl _ rfl v6 h6 v7 h7 _ rfl v9_ h9_; simp only [Act.put, List.setIfInBounds_toArray, List.set_cons_zero, List.set_cons_succ]
      have HNF : Hid (Own w' w.heap.size v9_ NF) := Lib.hid h9_
      clear h6 h7 h9_
      go_wp2_with fail
      go_roundw
      case rel =>
        refine ⟨f', rest, Rv, fac, NF, HK.out.1, by have := HK.out.2.1; omega, hb2, by have := HK.out.2.1; omega, HK.out.2.2.1, ?_, ?_, HQ2.out.grow (x3.trans hx), (HO4.out.base XW.size).grow hx, HQ4.out.grow (x3.trans hx), HNF.out, (hext.trans x3).trans hx⟩
        · have k1 := HK.out.2.1
          have k3 := HK.out.2.2.2.1
          have k4 := HK.out.2.2.2.2.1
          have k5 := HK.out.2.2.2.2.2
          omega
        · have k1 := HK.out.2.1
          omega
      case measure =>
        obtain ⟨a8, c8, hv8, _, _, _⟩ := HO4.out.form
        subst hv8
        have k1 := HK.out.2.1
        simp only [lenV]; exact k1
    · have t1 : decide ((N : Int) + (K : Int) ≤ 2 * ((rest.length : Int) - 1)) = false := decide_eq_false (by omega)
      have hG := (gao_stop (p := p) (f := f) (a := old) (c := oldF) (d := fac) hlt).symm.trans hE
      subst hG
      have hv := HW.out.1
      have HV := Lib.hid hv
      have HR2 := Lib.hid r2
      have HR4 := Lib.hid r4
      clear hE hf hlt ht q1 q2 q3 q4 r1 r2 r3 r4
      by_cases hz : (trimP p fac).length = 0
      · have E : Hid (nearM p N K l e = none) := Lib.hid (by rw [EN.out, if_pos hz])
        have DM := Lib.hid (DivMod_zero p rest fac a2 a4 c2 c4 wr hv HR4.out (by omega) hz)
        clear hz hv RC
        go_wp2_with fail
        refine DM.out.mono ?_; rintro e' w3 ⟨vq, vr, rfl, o3, o4, x3⟩
        clear o3 o4
        go_wp2_with fail
        go_ret2
        rw [E.out]; exact ⟨_, rfl, Own.nil _ _, XW.trans x3⟩
      have DM := Lib.hid (DivMod_any p rest fac a2 a4 c2 c4 wr hv HR2.out HR4.out (by omega) (by omega) (by omega))
      have k3 := pquo_le p rest fac (by omega)
      have k6 := prem_le p rest fac
      obtain ⟨Qv, hQ⟩ : ∃ Q, Q = pquo p rest fac := ⟨_, rfl⟩
      obtain ⟨Rv, hR⟩ : ∃ R, R = prem p rest fac := ⟨_, rfl⟩
      have EN2 : Hid (nearM p N K l e = if 0 < Rv.length ∨ K < Qv.length then none else if e < (dist (cword p N Qv) (l.map (fred p)) : Nat) then none else some (cword p N Qv)) := Lib.hid (by rw [EN.out, if_neg hz, ← hQ, ← hR])
      rw [← hQ, ← hR] at DM
      rw [← hQ] at k3
      rw [← hR] at k6
      clear hz EN hQ hR hv
      by_cases hr : 0 < Rv.length
      · have E : Hid (nearM p N K l e = none) := Lib.hid (by rw [EN2.out, if_pos (.inl hr)])
        clear RC
        go_wp2_with fail
        refine DM.out.mono ?_; rintro e' w3 ⟨vq, vr, rfl, o3, o4, x3⟩
        obtain ⟨aq, cq, rfl, _, _, _⟩ := o3.form
        obtain ⟨ar, cr, rfl, _, _, _⟩ := o4.form
        clear o3 o4
        go_wp2_with fail
        go_ret2
        rw [E.out]; exact ⟨_, rfl, Own.nil _ _, XW.trans x3⟩
      obtain rfl : Rv = [] := List.eq_nil_of_length_eq_zero (by omega)
      by_cases hq : K < Qv.length
      · have E : Hid (nearM p N K l e = none) := Lib.hid (by rw [EN2.out, if_pos (.inr hq)])
        clear RC
        go_wp2_with fail
        refine DM.out.mono ?_; rintro e' w3 ⟨vq, vr, rfl, o3, o4, x3⟩
        obtain ⟨aq, cq, rfl, _, _, _⟩ := o3.form
        obtain ⟨ar, cr, rfl, _, _⟩ := o4.formN 0 rfl
        replace g2 := x3.cell g2
        clear o3 o4
        go_wp2_with fail
        go_ret2
        rw [E.out]; exact ⟨_, rfl, Own.nil _ _, XW.trans x3⟩
      have WC := Lib.hid (fun w' aq cq (hr : Rd w' aq Qv) => word_c p N K Qv aq cq w' HW.out hr (by omega) (by omega))
      have EN3 : Hid (nearM p N K l e = if e < (dist (cword p N Qv) (l.map (fred p)) : Nat) then none else some (cword p N Qv)) := Lib.hid (by rw [EN2.out, if_neg (by omega)])
      obtain ⟨Wd, hW⟩ : ∃ W, W = cword p N Qv := ⟨_, rfl⟩
      obtain ⟨Rd0, hRd⟩ : ∃ R, R = l.map (fred p) := ⟨_, rfl⟩
      have lW : Wd.length = N := by rw [hW]; exact tab_len _ _
      have lR : Rd0.length = N := by rw [hRd, List.length_map]; exact HL.out
      rw [← hW] at WC
      rw [← hW, ← hRd] at EN3
      rw [← hRd] at RC
      have HLW := Lib.hid (And.intro lW lR)
      have DC := Lib.hid (fun w' a1 c1 a2 c2 (h1 : Rd w' a1 Wd) (h2 : Rd w' a2 Rd0) => Distance_c Wd Rd0 a1 a2 c1 c2 w' h1 h2 (by have := HLW.out; omega) (by have := HLW.out; omega))
      obtain ⟨dd, hdd⟩ : ∃ d, d = dist Wd Rd0 := ⟨_, rfl⟩
      rw [← hdd] at DC EN3
      clear hW hRd lW lR hdd EN2
      go_wp2_with fail
      refine DM.out.mono ?_; rintro e' w3 ⟨vq, vr, rfl, o3, o4, x3⟩
      obtain ⟨aq, cq, rfl, _, _, rq⟩ := o3.form
      obtain ⟨ar, cr, rfl, _, _⟩ := o4.formN 0 rfl
      replace g0 := x3.cell g0
      replace g1 := x3.cell g1
      replace g2 := x3.cell g2
      replace hc := x3.cell hc
      have RQ := Lib.hid rq
      have X3 := XW.trans x3
      clear o3 o4 rq x3
      go_wp2_with fail
      refine (WC.out _ _ _ RQ.out).mono ?_; rintro e' w4 ⟨vw, rfl, o4, x4⟩
      have HO := Lib.hid o4
      obtain ⟨aw, cw, rfl, _, _, rw4⟩ := o4.form
      replace hc := x4.cell hc
      have X4 := X3.trans x4
      have RW := Lib.hid rw4
      clear o4 rw4
      go_wp2_with fail
      refine (RC.out _ (HA.out.ext X4)).mono ?_; rintro e' w5 ⟨vr, rfl, o5, x5⟩
      obtain ⟨ar5, cr5, rfl, _, _, rr5⟩ := o5.form
      have RR := Lib.hid rr5
      clear o5 rr5
      go_wp2_with fail
      refine (DC.out _ _ _ _ _ (RW.out.ext x5) RR.out).mono ?_; rintro e' w6 ⟨rfl, x6⟩
      by_cases hde : e < (dd : Int)
      · have E : Hid (nearM p N K l e = none) := Lib.hid (by rw [EN3.out, if_pos hde])
        have t9 : decide (e < (dd : Int)) = true := decide_eq_true hde
        go_wp2_with fail
        go_ret2
        rw [E.out]; exact ⟨_, rfl, Own.nil _ _, (X4.trans x5).trans x6⟩
      · have E : Hid (nearM p N K l e = some Wd) := Lib.hid (by rw [EN3.out, if_neg hde])
        have t9 : decide (e < (dd : Int)) = false := decide_eq_false hde
        go_wp2_with fail
        go_ret2
        rw [E.out]; exact ⟨_, rfl, ((HO.out.base X3.size).grow x5).grow x6, (X4.trans x5).trans x6⟩
end Go.Proofs.Ytgnngifnoaagjaa
