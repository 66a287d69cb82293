/- Walk of TopInterpolations. -/
import Derived.Test.YtcnbinjoeilfgaaTp2
namespace Go.Proofs.Ytcnbinjoeilfgaa
open Go.RowKit
def RdRF (n : Nat) (rows : List (List Nat)) : Fact := fun w v => ∃ a c, v = .slice a n c ∧ RdR w a rows
theorem RdRF.mono {n : Nat} {rows : List (List Nat)} : Mono (RdRF n rows) := fun _ _ _ hx ⟨a, c, hv, hr⟩ => ⟨a, c, hv, hr.ext hx⟩
def TupF (base : Nat) (l : List Nat) : Fact := fun w v => ∃ u, v = .tuple #[u, .bool true] ∧ Own w base u l
theorem TupF.mono {base : Nat} {l : List Nat} : Mono (TupF base l) := fun _ _ _ hx ⟨u, hv, hr⟩ => ⟨u, hv, hr.grow hx⟩
theorem MV_pow {p n : Nat} {D : List Nat} (hd : D.length = n) (h0 : 0 < n) (hn : n ≤ 64) : MV (powM p D) n :=
  ⟨by rw [powM_len]; omega, by rw [powM_len]; omega, hn, fun i hi => by rw [powM_get (by rw [← powM_len p]; exact hi)]; simp [hd]⟩
set_option maxRecDepth 100000 in
set_option maxHeartbeats 8000000 in
theorem TopInterpolations_w (n s : Nat) (l : List Nat) (a : Option Addr) (c : Nat) (w : World) (hn : n < 256) (ha : Rd w a l) (hl : l.length ≤ 9223372036854775807) :
    Calls Try.prog 11 #[.int .u8 n, .int .u64 s, .slice a l.length c] w fun e w' => e = .returned (.bool true) ∧ Ext w w' := by
  have HA := Lib.hid ha
  have PRC := Lib.hid (Prime_c n hn)
  have V := Lib.hid (prm_vld n)
  obtain ⟨p, hp⟩ : ∃ p, p = prm n := ⟨_, rfl⟩
  rw [← hp] at V PRC
  obtain ⟨m, hm⟩ : ∃ m, m = l.length := ⟨_, rfl⟩
  have HM := Lib.hid hm
  rw [← hm] at hl
  rw [← hm]
  clear ha hp hn hm
  go_enter Try.func11, Try.ntmps11
  go_wp2_with fail
  refine (PRC.out _).mono ?_; rintro e w1 ⟨rfl, X⟩
  have HX := Lib.hid X
  clear X
  go_wp2_with fail
  refine (awake05_c _).mono ?_; rintro e w2 ⟨rfl, x2⟩
  have hc : w2.cell? ⟨w1.heap.size, 0, none⟩ = some (.int .u64 p) := x2.cell (by simp)
  have X : Ext w w2 := HX.out.trans (Ext.trans (by
    first
      | exact (Ext.refl _).alloc _
      | exact ((Ext.refl _).alloc _).setNew (Nat.le_refl _) _) x2)
  clear x2
  by_cases h16 : m ≤ 16
  · have DC := Lib.hid (fun w' => Domain_c p s (m : Int) w' (by omega) (by omega))
    by_cases hok : okT p (m : Int) = true ∧ s % p ≠ 0
    · have hD : tD p s (m : Int) = (rdom p (s % p) (rootN p m) m, 0) := by
        unfold tD; rw [if_neg (by rw [V.out]; decide), if_pos hok, Int.toNat_natCast]
      have hN : tN p l s = (tint p (Nat.log2 m) l s (rootN p m) m, 0) := by
        unfold tN; rw [← HM.out, if_neg (by rw [V.out]; decide), if_pos hok]
      obtain ⟨_, k, hk, hmk, hdv, _⟩ := okT_spec hok.1
      have hmk' : m = 2 ^ k := by omega
      have hlg : Nat.log2 m = k := by rw [hmk', Nat.log2_two_pow]
      rw [hlg] at hN
      haveI := Q.nz_vld V.out
      have hm0 : 0 < m := by rw [hmk']; exact Nat.two_pow_pos k
      have hsol := Q.sol_interp V.out hdv hmk' HM.out.symm hok.2
      have hpin := Q.poly_interp V.out hdv hmk' HM.out.symm hok.2
      have hnd : ((rdom p (s % p) (rootN p m) m).map (fred p)).Nodup := by rw [hmk']; exact Q.rdom_diff V.out hdv hok.2
      have DC := Lib.hid (fun w' => by have q := DC.out w'; rw [hD] at q; exact q)
      have IC := Lib.hid (fun w' h => by have q := Interpolate_c p l s a c w' h (by have := HM.out; omega); rw [hN, ← HM.out] at q; exact q)
      obtain ⟨D, hDD⟩ : ∃ D, D = rdom p (s % p) (rootN p m) m := ⟨_, rfl⟩
      have hDl : D.length = m := by rw [hDD]; exact tab_len _ _
      rw [← hDD] at hsol hpin hnd DC
      obtain ⟨A, hA⟩ : ∃ A, A = tint p k l s (rootN p m) m := ⟨_, rfl⟩
      have hAl : A.length = m := by rw [hA]; exact tab_len _ _
      rw [← hA] at hsol hpin IC
      have PIC := Lib.hid (fun w' (a8 : Option Addr) (c8 : Nat) (h1 : Rd w' a8 D) (h2 : Rd w' a l) => by
        have q := Interp_ok p D l a8 a c8 c w' V.out h1 h2 (by rw [hDl]; exact HM.out) (by omega) hnd
        rw [hDl, ← HM.out, hpin] at q; exact q)
      have PWC := Lib.hid (fun w' (a8 : Option Addr) (c8 : Nat) (h1 : Rd w' a8 D) => powers05_c p m D a8 c8 w' V.out hDl hm0 (by omega) h1)
      have hpl : (powM p D).length = m := by rw [powM_len, hDl]
      have SVC := Lib.hid (fun w' (a9 : Option Addr) (c9 : Nat) (h1 : RdR w' a9 (powM p D)) (h2 : Rd w' a l) => by
        have q := Solve_c p m (powM p D) l V.out (MV_pow hDl hm0 (by omega)) hpl HM.out.symm hsol.1 a9 a c9 c w' h1 h2
        rw [hsol.2] at q; exact q)
      have HDL := Lib.hid hDl
      have HAL := Lib.hid hAl
      have HPL := Lib.hid hpl
      obtain ⟨T, hT⟩ : ∃ T, T = trimP p A := ⟨_, rfl⟩
      rw [← hT] at PIC
      obtain ⟨q, hq⟩ : ∃ q, q = T.length := ⟨_, rfl⟩
      have HQ := Lib.hid hq
      have TC := Lib.hid (fun w' (a9 : Option Addr) (c9 : Nat) (h1 : Rd w' a9 A) => by
        have q := Trim_c p A a9 c9 w' h1 (by omega)
        rw [← hT, hAl] at q; exact q)
      have hq6 : q ≤ 16 := by
        rw [hq, hT]; have := trimP_le p A; omega
      have SAC := Lib.hid (fun w' (x y : Option Addr) (d f : Nat) (h1 : Rd w' x A) (h2 : Rd w' y A) => same1n A m x y d f w' hAl h1 h2 (by omega))
      have STC := Lib.hid (fun w' (x y : Option Addr) (d f : Nat) (h1 : Rd w' x T) (h2 : Rd w' y T) => same1n T q x y d f w' hq.symm h1 h2 (by omega))
      clear hD hN hmk hlg hsol hpin hnd hDD hA hDl hAl hpl hT hq hok hdv hk hmk'
      go_wp2_with fail
      refine (DC.out _).mono ?_; rintro e w3 ⟨v3, rfl, o3, x3⟩
      obtain ⟨a3, c3, rfl, _, r3⟩ := o3.formN m HDL.out
      replace hc := x3.cell hc
      replace X := X.trans x3
      have R3 := Lib.hid r3
      clear o3 x3 r3
      go_wp2_with fail
      refine (IC.out _ (HA.out.ext X)).mono ?_; rintro e w4 ⟨v4, rfl, o4, x4⟩
      obtain ⟨a4, c4, rfl, _, r4⟩ := o4.formN m HAL.out
      replace hc := x4.cell hc
      replace X := X.trans x4
      have R3 := Lib.hid (R3.out.ext x4)
      have R4 := Lib.hid r4
      clear o4 x4 r4
      go_wp2_with fail
      refine (PIC.out _ _ _ R3.out (HA.out.ext X)).mono ?_; rintro e w5 ⟨v5, rfl, o5, x5⟩
      obtain ⟨a5, c5, rfl, _, r5⟩ := o5.formN q HQ.out.symm
      replace hc := x5.cell hc
      replace X := X.trans x5
      have R3 := Lib.hid (R3.out.ext x5)
      have R4 := Lib.hid (R4.out.ext x5)
      have R5 := Lib.hid r5
      clear o5 x5 r5
      go_wp2_with fail
      refine region_factsL [[], [], [], [(1, 52), (2, 53)], [], [(0, 51), (3, 54), (4, 55)], [(5, 56)], [(6, 50)], [(6, 50)], [(7, 57)], [(8, 58)]] [some 51, some 52, some 53, some 54, some 55, some 56, some 50, some 57, some 58, some 13, some 14] [false, false, true, false, false, false, false, true, true, false, false, false, false, false, false, false, false, false, false, false, false, false, false, false, false, false, false, false, false, false, false, false, false, false, false, false, false, false, false, false, false, false, false, false, false, false, false, false, false, false, false, false, false, false, false, false, false, false, false, false, false, false, false, false, false, false, false, false, false, false, false, false, false, false, false, false, false, false, false, false] (by kernel_rfl) (by kernel_rfl) (by kernel_rfl) ?_
      dsimp only [maskL]
      with_reducible apply FromM.eq
      · intro w' hx; have hcx := hx.cell hc; (try dsimp only [List.nil_append, List.cons_append, DepsL, DepsL1, setO, setN, favs, opsOf]); go_wp2; exact OpPostE.some _ rfl rfl (Ext.refl _) rfl
      with_reducible apply FromM.eq
      · intro w' hx; have hcx := hx.cell hc; (try dsimp only [List.nil_append, List.cons_append, DepsL, DepsL1, setO, setN, favs, opsOf]); go_wp2; exact OpPostE.some _ rfl rfl (Ext.refl _) rfl
      with_reducible apply FromM.eq
      · intro w' hx; (try dsimp only [List.nil_append, List.cons_append, DepsL, DepsL1, setO, setN, favs, opsOf]); go_wp2; exact OpPostE.some _ rfl rfl (Ext.refl _) rfl
      refine FromM.step (RdRF m (powM p D)) (RdRF.mono) ?_ ?_
      · intro w' hx; (try dsimp only [List.nil_append, List.cons_append, DepsL, DepsL1, setO, setN, favs, opsOf]); skip;
        refine op_call 38 [.tmp 52, .tmp 53] _ _ _ rfl rfl rfl rfl rfl rfl (fun _ _ => Try.call38 _ _) (PWC.out _ _ _ (R3.out.ext hx)) (fun e w2 h_ => ?_); obtain ⟨a9, c9, rfl, hr9, hb2⟩ := h_; exact ⟨_, rfl, hb2, ⟨a9, c9, by rw [HPL.out], hr9⟩⟩
      with_reducible apply FromM.eq
      · intro w' hx; (try dsimp only [List.nil_append, List.cons_append, DepsL, DepsL1, setO, setN, favs, opsOf]); go_wp2; exact OpPostE.some _ rfl rfl (Ext.refl _) rfl
      refine FromM.step (TupF w.heap.size A) (TupF.mono) ?_ ?_
      · intro w' hx; (try dsimp only [List.nil_append, List.cons_append, DepsL, DepsL1, setO, setN, favs, opsOf]); rintro v3 k3; obtain ⟨a9, c9, rfl, r9⟩ := k3;
        refine op_call 37 [.tmp 51, .tmp 54, .tmp 55] _ _ _ rfl rfl rfl rfl rfl rfl (fun _ _ => Try.call37 _ _) (SVC.out _ _ _ r9 (HA.out.ext (X.trans hx))) (fun e w2 h_ => ?_); obtain ⟨u, rfl, ho, hb2⟩ := h_; exact ⟨_, rfl, hb2, ⟨u, rfl, ho.base (X.trans hx).size⟩⟩
      refine FromM.step (TupF w.heap.size A) (TupF.mono) ?_ ?_
      · intro w' hx; (try dsimp only [List.nil_append, List.cons_append, DepsL, DepsL1, setO, setN, favs, opsOf]); rintro v5 k5; go_wp2; exact OpPostE.some _ rfl rfl (Ext.refl _) k5
      -- 7: t57
      refine FromM.step (OwnF w.heap.size A) OwnF.mono ?_ ?_
      · intro w' hx; (try dsimp only [List.nil_append, List.cons_append, DepsL, DepsL1, setO, setN, favs, opsOf]); rintro v6_ h6_; obtain ⟨u, rfl, ho⟩ := h6_; go_wp2; exact OpPostE.some _ rfl rfl (Ext.refl _) ho
      -- 8: t58
      with_reducible apply FromM.eq
      · intro w' hx; (try dsimp only [List.nil_append, List.cons_append, DepsL, DepsL1, setO, setN, favs, opsOf]); rintro v6_ h6_; obtain ⟨u, rfl, ho⟩ := h6_; go_wp2; exact OpPostE.some _ rfl rfl (Ext.refl _) rfl
      -- 9: t13
      refine FromM.step (OwnF w.heap.size A) OwnF.mono ?_ ?_
      · intro w' hx; (try dsimp only [List.nil_append, List.cons_append, DepsL, DepsL1, setO, setN, favs, opsOf]); rintro v7 k7; go_wp2; exact OpPostE.some _ rfl rfl (Ext.refl _) k7
      with_reducible apply FromM.eq
      · intro w' hx; (try dsimp only [List.nil_append, List.cons_append, DepsL, DepsL1, setO, setN, favs, opsOf]); go_wp2; exact OpPostE.some _ rfl rfl (Ext.refl _) rfl
      with_reducible refine FromM.fin ?_
      intro w' hx
      (try dsimp only [List.nil_append, List.cons_append, EndL, DepsL1, setO, setN]); rintro v3 k3 v5 k5 v6_ h6_ v7 k7 v9 k9
      obtain ⟨a6, c6, rfl, _, r6⟩ := k9.formN m HAL.out
      replace hc := hx.cell hc
      replace X := X.trans hx
      have R4 := Lib.hid (R4.out.ext hx)
      have R5 := Lib.hid (R5.out.ext hx)
      have R6 := Lib.hid r6
      clear k3 k5 h6_ k7 k9 r6 hx
      go_wp2_with fail
      refine (SAC.out _ _ _ _ _ R4.out R6.out).mono ?_; rintro e w7 ⟨rfl, x7⟩
      replace hc := x7.cell hc
      replace X := X.trans x7
      have R4 := Lib.hid (R4.out.ext x7)
      have R5 := Lib.hid (R5.out.ext x7)
      clear x7
      go_wp2_with fail
      refine (TC.out _ _ _ R4.out).mono ?_; rintro e w8 ⟨v8, rfl, o8, x8⟩
      obtain ⟨a8, c8, rfl, _, r8⟩ := o8.formN q HQ.out.symm
      replace X := X.trans x8
      have R5 := Lib.hid (R5.out.ext x8)
      have R8 := Lib.hid r8
      clear o8 x8 r8 hc
      go_wp2_with fail
      refine (STC.out _ _ _ _ _ R8.out R5.out).mono ?_; rintro e w9 ⟨rfl, x9⟩
      replace X := X.trans x9
      clear x9
      go_wp2_with fail
      go_ret
      exact ⟨rfl, X⟩
    · have hD : tD p s (m : Int) = ([], 1) := by
        unfold tD; rw [if_neg (by rw [V.out]; decide), if_neg hok]
      have DC := Lib.hid (fun w' => by have q := DC.out w'; rw [hD] at q; exact q)
      clear hD hok
      go_wp2_with fail
      refine (DC.out _).mono ?_; rintro e w3 ⟨v3, rfl, o3, x3⟩
      obtain ⟨a3, c3, rfl, _, r3⟩ := o3.formN 0 rfl
      replace X := X.trans x3
      clear o3 x3 r3 hc
      go_wp2_with fail
      go_ret
      exact ⟨rfl, X⟩
  · have t16 : decide ((16 : Int) < (m : Int)) = true := decide_eq_true (by omega)
    go_wp2_with fail
    refine (awake05_c _).mono ?_; rintro e w3 ⟨rfl, x3⟩
    replace X := X.trans x3
    clear x3 hc
    go_wp2_with fail
    go_ret
    exact ⟨rfl, X⟩
end Go.Proofs.Ytcnbinjoeilfgaa
