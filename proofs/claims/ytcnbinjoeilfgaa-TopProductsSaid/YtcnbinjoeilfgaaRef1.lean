/- Contracts of moidoreref01. -/
import Derived.Test.YtcnbinjoeilfgaaField2
import Derived.Test.YtcnbinjoeilfgaaSlice
namespace Go.Proofs.Ytcnbinjoeilfgaa
open Go.RowKit

def rg (p : Nat) : Nat := if p = 17 then 3 else if p = 97 then 5 else if p = 193 then 5 else if p = 257 then 3 else if p = 12289 then 11 else if p = 65537 then 3 else if p = 18446744069414584321 then 7 else 0
def ra (p : Nat) : Nat := if p = 17 then 4 else if p = 97 then 5 else if p = 193 then 6 else if p = 257 then 8 else if p = 12289 then 12 else if p = 65537 then 16 else if p = 18446744069414584321 then 32 else 0
def rx (p : Nat) : Nat := if p = 17 then 3 else if p = 97 then 5 else if p = 193 then 5 else if p = 257 then 3 else if p = 12289 then 5 else if p = 65537 then 3 else if p = 18446744069414584321 then 7 else 0

def RowPost (p : Nat) (w : World) (e : Ending) (w' : World) : Prop := e = .returned (.agg #[.int .u64 (rg p), .int .u64 (ra p), .int .u64 (rx p)]) ∧ Ext w w'
theorem rg_pos (p : Nat) : decide (0 < rg p) = vld p := by
  cases h : vld p
  · obtain ⟨h1, h2, h3, h4, h5, h6, h7⟩ := vld_not h; simp [rg, h1, h2, h3, h4, h5, h6, h7]
  · rcases vld_cases h with rfl | rfl | rfl | rfl | rfl | rfl | rfl <;> simp [rg]

set_option maxHeartbeats 1000000 in
theorem row_c (p : Nat) (w : World) : Calls Try.prog 57 #[.int .u64 p] w (RowPost p w) := by
  cases h : vld p
  · obtain ⟨h1, h2, h3, h4, h5, h6, h7⟩ := vld_not h
    have g1 : ((p : Int) == 17) = false := beq_eq_false_iff_ne.2 (by omega)
    have g2 : ((p : Int) == 97) = false := beq_eq_false_iff_ne.2 (by omega)
    have g3 : ((p : Int) == 193) = false := beq_eq_false_iff_ne.2 (by omega)
    have g4 : ((p : Int) == 257) = false := beq_eq_false_iff_ne.2 (by omega)
    have g5 : ((p : Int) == 12289) = false := beq_eq_false_iff_ne.2 (by omega)
    have g6 : ((p : Int) == 65537) = false := beq_eq_false_iff_ne.2 (by omega)
    have g7 : ((p : Int) == 18446744069414584321) = false := beq_eq_false_iff_ne.2 (by omega)
    have e1 : rg p = 0 := by simp [rg, h1, h2, h3, h4, h5, h6, h7]
    have e2 : ra p = 0 := by simp [ra, h1, h2, h3, h4, h5, h6, h7]
    have e3 : rx p = 0 := by simp [rx, h1, h2, h3, h4, h5, h6, h7]
    have HE := Lib.hid (And.intro e1 (And.intro e2 e3))
    clear h h1 h2 h3 h4 h5 h6 h7 e1 e2 e3
    go_enter Try.func57, Try.ntmps57
    go_wp2
    refine bodyPost_ret (v := .agg #[.int .u64 0, .int .u64 0, .int .u64 0]) (by simp [results, Try.results57, go_sem]) rfl ⟨by rw [HE.out.1, HE.out.2.1, HE.out.2.2]; rfl, ?_⟩
    exact (Ext.refl _).alloc _
  · rcases vld_cases h with rfl | rfl | rfl | rfl | rfl | rfl | rfl
    all_goals
      clear h
      go_enter Try.func57, Try.ntmps57
      go_wp2
      refine bodyPost_ret ?_ rfl (⟨rfl, (Ext.refl _).alloc _⟩ : RowPost _ _ (.returned (.agg #[.int .u64 (rg _), .int .u64 (ra _), .int .u64 (rx _)])) _)
      simp [results, Try.results57, go_sem, rg, ra, rx]

set_option maxHeartbeats 1000000 in
theorem RValid_c (p : Nat) (w : World) :
    Calls Try.prog 29 #[.int .u64 p] w fun e w' => e = .returned (.bool (vld p)) ∧ Ext w w' := by
  have H := Lib.hid (rg_pos p)
  have i0 : ∀ w, (Instr.index 76 (.agg #[.int .u64 (rg p), .int .u64 (ra p), .int .u64 (rx p)]) (.int .i64 0)).run Try.prog w = .ok (.int .u64 (rg p)) w := fun _ => by kernel_rfl
  go_enter Try.func29, Try.ntmps29
  go_wp2_with (go_at_call 57; refine (row_c _ _).mono ?_; rintro e w1 ⟨rfl, hb1⟩)
  go_ret
  exact ⟨by rw [← H.out]; simp, hb1⟩

theorem radd_ge {p a b : Nat} (hp : vld p = true) (h : p - b % p ≤ a % p) : ((a % p : Nat) : Int) - (((p : Nat) : Int) - ((b % p : Nat) : Int)) = (fadd p a b : Int) := by
  have ha := lt_of_mod (n := a) hp; have hb := lt_of_mod (n := b) hp
  have e : fadd p a b = a % p + b % p - p := by
    unfold fadd; rw [if_pos hp, Nat.add_mod, Nat.mod_eq_sub_mod (by omega), Nat.mod_eq_of_lt (by omega)]
  rw [e]; generalize a % p = x at *; generalize b % p = y at *; omega
theorem radd_lt {p a b : Nat} (hp : vld p = true) (h : a % p < p - b % p) : ((a % p : Nat) : Int) + ((b % p : Nat) : Int) = (fadd p a b : Int) := by
  have ha := lt_of_mod (n := a) hp; have hb := lt_of_mod (n := b) hp
  have e : fadd p a b = a % p + b % p := by
    unfold fadd; rw [if_pos hp, Nat.add_mod, Nat.mod_eq_of_lt (by omega)]
  rw [e]; generalize a % p = x at *; generalize b % p = y at *; omega

set_option maxHeartbeats 1000000 in
theorem RAdd_c (p a b : Nat) (w : World) :
    Calls Try.prog 31 #[.int .u64 p, .int .u64 a, .int .u64 b] w fun e w' => e = .returned (.int .u64 (fadd p a b)) ∧ Ext w w' := by
  cases h : vld p
  · have H := Lib.hid h
    go_enter Try.func31, Try.ntmps31
    go_wp2_with (go_at_call 29; refine (RValid_c _ _).mono ?_; rintro e w1 ⟨rfl, hb1⟩)
    go_ret
    exact ⟨ret_u _ _ (by simp [fadd, H.out]), hb1⟩
  · have H := Lib.hid h
    have hp := vld_bd h
    have g : ((p : Int) == 0) = false := beq_eq_false_iff_ne.2 (by omega)
    obtain ⟨x, hx0⟩ : ∃ x, x = a % p := ⟨_, rfl⟩
    obtain ⟨y, hy0⟩ : ∃ y, y = b % p := ⟨_, rfl⟩
    have ex : (a : Int) % p = (x : Int) := by rw [hx0]; rfl
    have ey : (b : Int) % p = (y : Int) := by rw [hy0]; rfl
    have bx : x < p := by rw [hx0]; exact lt_of_mod h
    have by' : y < p := by rw [hy0]; exact lt_of_mod h
    have HX := Lib.hid hx0
    have HY := Lib.hid hy0
    clear hx0 hy0
    by_cases hc : p - y ≤ x
    · have HC := Lib.hid hc
      have hc' : decide ((p : Int) - y ≤ x) = true := by simp; omega
      go_enter Try.func31, Try.ntmps31
      go_wp2_with (go_at_call 29; refine (RValid_c _ _).mono ?_; rintro e w1 ⟨rfl, hb1⟩)
      refine region_facts [[], [], [(0, 10), (1, 11)], [], [], [(3, 13), (4, 14)], [(2, 12)], [(5, 15)]] [some 10, some 11, some 12, some 13, some 14, some 15, some 1, some 2] (by kernel_rfl) (by kernel_rfl) ?_
      apply From.eq
      · intro w' hx; dsimp only [DepsV, fat, List.nil_append, List.cons_append, eqF]; go_wp2; exact OpPost.some _ rfl rfl (Ext.refl _) rfl
      apply From.eq
      · intro w' hx; dsimp only [DepsV, fat, List.nil_append, List.cons_append, eqF]; go_wp2; exact OpPost.some _ rfl rfl (Ext.refl _) rfl
      apply From.eq
      · intro w' hx; dsimp only [DepsV, fat, List.nil_append, List.cons_append, eqF]; rintro _ rfl _ rfl; go_wp2; exact OpPost.some _ rfl rfl (Ext.refl _) rfl
      apply From.eq
      · intro w' hx; dsimp only [DepsV, fat, List.nil_append, List.cons_append, eqF]; go_wp2; exact OpPost.some _ rfl rfl (Ext.refl _) rfl
      apply From.eq
      · intro w' hx; dsimp only [DepsV, fat, List.nil_append, List.cons_append, eqF]; go_wp2; exact OpPost.some _ rfl rfl (Ext.refl _) rfl
      apply From.eq
      · intro w' hx; dsimp only [DepsV, fat, List.nil_append, List.cons_append, eqF]; rintro _ rfl _ rfl; go_wp2; exact OpPost.some _ rfl rfl (Ext.refl _) rfl
      apply From.eq
      · intro w' hx; dsimp only [DepsV, fat, List.nil_append, List.cons_append, eqF]; rintro _ rfl; go_wp2; exact OpPost.some _ rfl rfl (Ext.refl _) rfl
      apply From.eq
      · intro w' hx; dsimp only [DepsV, fat, List.nil_append, List.cons_append, eqF]; rintro _ rfl; go_wp2; exact OpPost.some _ rfl rfl (Ext.refl _) rfl
      refine From.fin (fun w' hx => ?_)
      dsimp only [EndV, List.nil_append, List.cons_append, eqF]; rintro _ rfl _ rfl _ rfl _ rfl _ rfl _ rfl _ rfl _ rfl; simp only [Act.put, List.setIfInBounds_toArray, List.set_cons_zero, List.set_cons_succ]
      go_wp2
      go_ret
      exact ⟨ret_u _ _ (by have := radd_ge (a := a) (b := b) H.out (by rw [← HX.out, ← HY.out]; exact HC.out); rw [← HX.out, ← HY.out] at this; exact this), hb1.trans hx⟩
    · have HC := Lib.hid (show x < p - y by omega)
      have hc' : decide ((p : Int) - y ≤ x) = false := by simp; omega
      go_enter Try.func31, Try.ntmps31
      go_wp2_with (go_at_call 29; refine (RValid_c _ _).mono ?_; rintro e w1 ⟨rfl, hb1⟩)
      refine region_facts [[], [], [(0, 10), (1, 11)], [], [], [(3, 13), (4, 14)], [(2, 12)], [(5, 15)]] [some 10, some 11, some 12, some 13, some 14, some 15, some 1, some 2] (by kernel_rfl) (by kernel_rfl) ?_
      apply From.eq
      · intro w' hx; dsimp only [DepsV, fat, List.nil_append, List.cons_append, eqF]; go_wp2; exact OpPost.some _ rfl rfl (Ext.refl _) rfl
      apply From.eq
      · intro w' hx; dsimp only [DepsV, fat, List.nil_append, List.cons_append, eqF]; go_wp2; exact OpPost.some _ rfl rfl (Ext.refl _) rfl
      apply From.eq
      · intro w' hx; dsimp only [DepsV, fat, List.nil_append, List.cons_append, eqF]; rintro _ rfl _ rfl; go_wp2; exact OpPost.some _ rfl rfl (Ext.refl _) rfl
      apply From.eq
      · intro w' hx; dsimp only [DepsV, fat, List.nil_append, List.cons_append, eqF]; go_wp2; exact OpPost.some _ rfl rfl (Ext.refl _) rfl
      apply From.eq
      · intro w' hx; dsimp only [DepsV, fat, List.nil_append, List.cons_append, eqF]; go_wp2; exact OpPost.some _ rfl rfl (Ext.refl _) rfl
      apply From.eq
      · intro w' hx; dsimp only [DepsV, fat, List.nil_append, List.cons_append, eqF]; rintro _ rfl _ rfl; go_wp2; exact OpPost.some _ rfl rfl (Ext.refl _) rfl
      apply From.eq
      · intro w' hx; dsimp only [DepsV, fat, List.nil_append, List.cons_append, eqF]; rintro _ rfl; go_wp2; exact OpPost.some _ rfl rfl (Ext.refl _) rfl
      apply From.eq
      · intro w' hx; dsimp only [DepsV, fat, List.nil_append, List.cons_append, eqF]; rintro _ rfl; go_wp2; exact OpPost.some _ rfl rfl (Ext.refl _) rfl
      refine From.fin (fun w' hx => ?_)
      dsimp only [EndV, List.nil_append, List.cons_append, eqF]; rintro _ rfl _ rfl _ rfl _ rfl _ rfl _ rfl _ rfl _ rfl; simp only [Act.put, List.setIfInBounds_toArray, List.set_cons_zero, List.set_cons_succ]
      go_wp2
      go_ret
      exact ⟨ret_u _ _ (by have := radd_lt (a := a) (b := b) H.out (by rw [← HX.out, ← HY.out]; exact HC.out); rw [← HX.out, ← HY.out] at this; exact this), hb1.trans hx⟩

set_option maxHeartbeats 1000000 in
theorem RMul_c (p a b : Nat) (w : World) :
    Calls Try.prog 32 #[.int .u64 p, .int .u64 a, .int .u64 b] w fun e w' => e = .returned (.int .u64 (fmul p a b)) ∧ Ext w w' := by
  cases h : vld p
  · have H := Lib.hid h
    go_enter Try.func32, Try.ntmps32
    go_wp2_with (go_at_call 29; refine (RValid_c _ _).mono ?_; rintro e w1 ⟨rfl, hb1⟩)
    go_ret
    exact ⟨ret_u _ _ (by simp [fmul, H.out]), hb1⟩
  · have hp := vld_bd h
    have g : ((p : Int) == 0) = false := beq_eq_false_iff_ne.2 (by omega)
    obtain ⟨x, hx0⟩ : ∃ x, x = a % p := ⟨_, rfl⟩
    obtain ⟨y, hy0⟩ : ∃ y, y = b % p := ⟨_, rfl⟩
    have ex : (a : Int) % p = (x : Int) := by rw [hx0]; rfl
    have ey : (b : Int) % p = (y : Int) := by rw [hy0]; rfl
    have bx : x < p := by rw [hx0]; exact lt_of_mod h
    have by' : y < p := by rw [hy0]; exact lt_of_mod h
    have hfin : fmul p a b = x * y % p := by unfold fmul; rw [if_pos h, hx0, hy0, Nat.mul_mod]
    obtain ⟨h0, h2⟩ := mul_hi h bx by'
    have hv := mul_val p x y
    obtain ⟨hi, hhi⟩ : ∃ hi, hi = x * y / 18446744073709551616 := ⟨_, rfl⟩
    obtain ⟨lo, hlo⟩ : ∃ lo, lo = x * y % 18446744073709551616 := ⟨_, rfl⟩
    have h3 : lo < 18446744073709551616 := by omega
    have M := fun w => Mul64_c x y (by omega) (by omega) w
    rw [← hhi, ← hlo] at hv M
    rw [← hhi] at h0 h2
    have HM := Lib.hid M
    have HV := Lib.hid (hfin.trans hv.symm)
    have H0 := Lib.hid h0
    have HP := Lib.hid h
    clear M hv h0 hhi hlo hx0 hy0 hfin
    go_enter Try.func32, Try.ntmps32
    go_wp2_with (go_at_call 29; refine (RValid_c _ _).mono ?_; rintro e w1 ⟨rfl, hb1⟩)
    refine region_facts [[], [], [(0, 15), (1, 16)], [], [], [(3, 18), (4, 19)], [(2, 17), (5, 20)], [(6, 21)], [(7, 14)], [(7, 14)], [(8, 22)], [(9, 23)]] [some 15, some 16, some 17, some 18, some 19, some 20, some 21, some 14, some 22, some 23, some 7, some 8] (by kernel_rfl) (by kernel_rfl) ?_
    apply From.eq
    · intro w' hx; dsimp only [DepsV, fat, List.nil_append, List.cons_append, eqF]; go_wp2; exact OpPost.some _ rfl rfl (Ext.refl _) rfl
    apply From.eq
    · intro w' hx; dsimp only [DepsV, fat, List.nil_append, List.cons_append, eqF]; go_wp2; exact OpPost.some _ rfl rfl (Ext.refl _) rfl
    apply From.eq
    · intro w' hx; dsimp only [DepsV, fat, List.nil_append, List.cons_append, eqF]; rintro _ rfl _ rfl; go_wp2; exact OpPost.some _ rfl rfl (Ext.refl _) rfl
    apply From.eq
    · intro w' hx; dsimp only [DepsV, fat, List.nil_append, List.cons_append, eqF]; go_wp2; exact OpPost.some _ rfl rfl (Ext.refl _) rfl
    apply From.eq
    · intro w' hx; dsimp only [DepsV, fat, List.nil_append, List.cons_append, eqF]; go_wp2; exact OpPost.some _ rfl rfl (Ext.refl _) rfl
    apply From.eq
    · intro w' hx; dsimp only [DepsV, fat, List.nil_append, List.cons_append, eqF]; rintro _ rfl _ rfl; go_wp2; exact OpPost.some _ rfl rfl (Ext.refl _) rfl
    -- 6: t21
    apply From.eq
    · intro w' hx; dsimp only [DepsV, fat, List.nil_append, List.cons_append, eqF]; rintro _ rfl _ rfl
      go_wp2_with (go_at_call 58; refine (HM.out _).mono ?_; rintro e w2 ⟨rfl, rfl⟩); exact OpPost.some _ rfl rfl (Ext.refl _) rfl
    apply From.eq
    · intro w' hx; dsimp only [DepsV, fat, List.nil_append, List.cons_append, eqF]; rintro _ rfl; go_wp2; exact OpPost.some _ rfl rfl (Ext.refl _) rfl
    apply From.eq
    · intro w' hx; dsimp only [DepsV, fat, List.nil_append, List.cons_append, eqF]; rintro _ rfl; go_wp2; exact OpPost.some _ rfl rfl (Ext.refl _) rfl
    apply From.eq
    · intro w' hx; dsimp only [DepsV, fat, List.nil_append, List.cons_append, eqF]; rintro _ rfl; go_wp2; exact OpPost.some _ rfl rfl (Ext.refl _) rfl
    apply From.eq
    · intro w' hx; dsimp only [DepsV, fat, List.nil_append, List.cons_append, eqF]; rintro _ rfl; go_wp2; exact OpPost.some _ rfl rfl (Ext.refl _) rfl
    apply From.eq
    · intro w' hx; dsimp only [DepsV, fat, List.nil_append, List.cons_append, eqF]; rintro _ rfl; go_wp2; exact OpPost.some _ rfl rfl (Ext.refl _) rfl
    refine From.fin (fun w' hx => ?_)
    dsimp only [EndV, List.nil_append, List.cons_append, eqF]; rintro _ rfl _ rfl _ rfl _ rfl _ rfl _ rfl _ rfl _ rfl _ rfl _ rfl _ rfl _ rfl; simp only [Act.put, List.setIfInBounds_toArray, List.set_cons_zero, List.set_cons_succ]
    go_wp2_with (go_at_call 59; refine (Div64_c p hi lo HP.out H0.out h2 h3 _).mono ?_; rintro e w2 ⟨q, rfl, hb2⟩)
    go_ret
    exact ⟨ret_u _ _ (by rw [HV.out]; simp), (hb1.trans hx).trans hb2⟩

theorem rpow_odd {p a0 e0 x b k : Nat} (h : x * b ^ k % p = a0 ^ e0 % p) (hp : vld p = true) (hk : k % 2 = 1) : fmul p x b * fmul p b b ^ (k / 2) % p = a0 ^ e0 % p := by
  simp only [fmul, if_pos hp]; exact pow_odd h hk
theorem rpow_even {p a0 e0 x b k : Nat} (h : x * b ^ k % p = a0 ^ e0 % p) (hp : vld p = true) (hk : k % 2 = 0) : x * fmul p b b ^ (k / 2) % p = a0 ^ e0 % p := by
  simp only [fmul, if_pos hp]; exact pow_even h hk
theorem fmul_lt {p a b : Nat} (hp : vld p = true) : fmul p a b < p := by unfold fmul; rw [if_pos hp]; exact lt_of_mod hp

set_option maxHeartbeats 1600000 in
theorem RPow_c (p a e : Nat) (w : World) (he : e < 18446744073709551616) :
    Calls Try.prog 72 #[.int .u64 p, .int .u64 a, .int .u64 e] w fun r w' => r = .returned (.int .u64 (fpow p a e)) ∧ Ext w w' := by
  cases h : vld p
  · have H := Lib.hid h
    go_enter Try.func72, Try.ntmps72
    go_wp2_with (go_at_call 29; refine (RValid_c _ _).mono ?_; rintro e w1 ⟨rfl, hb1⟩)
    go_ret
    exact ⟨ret_u _ _ (by simp [fpow, H.out]), hb1⟩
  · have hq := vld_bd h
    have HP := Lib.hid h
    have g : ((p : Int) == 0) = false := beq_eq_false_iff_ne.2 (by omega)
    go_enter Try.func72, Try.ntmps72
    go_wp2_with (go_at_call 29; refine (RValid_c _ _).mono ?_; rintro e w1 ⟨rfl, hb1⟩)
    clear h
    go_loopw [7, 1, 2] (PowRel p a e w) (fun _ _ s2 _ => (intOf s2).toNat)
    case atStart => exact ⟨1, a % p, e, rfl, by simp, rfl, by omega, Nat.mod_lt _ (by omega), he, by simp [Nat.pow_mod], hb1⟩
    case round =>
      clear hb1
      obtain ⟨x, b, k, rfl, rfl, rfl, hx, hb, hk, hv, hext⟩ := hrel
      have HV := Lib.hid hv
      clear hv
      by_cases h0 : k = 0
      · subst h0
        go_wp2
        go_ret
        exact ⟨ret_u _ _ (by have := HV.out; rw [Nat.pow_zero, Nat.mul_one, Nat.mod_eq_of_lt hx] at this; unfold fpow; rw [if_pos HP.out, this]), hext⟩
      · have t0 : decide ((0 : Int) < k) = true := by simp; omega
        by_cases h1 : k % 2 = 1
        · have t1 : ((k : Int) % 2 == 1) = true := by simp; omega
          have H1 := Lib.hid h1
          clear h1
          go_wp2_with (go_at_call 32; refine (RMul_c _ _ _ _).mono ?_; rintro e w1 ⟨rfl, hn⟩; replace hext := hext.trans hn; clear hn)
          go_roundw
          case rel => exact ⟨fmul p x b, fmul p b b, k / 2, rfl, rfl, by go_num, fmul_lt HP.out, fmul_lt HP.out, by omega, rpow_odd HV.out HP.out H1.out, hext⟩
          case measure => simp [intOf]; omega
        · have t1 : ((k : Int) % 2 == 1) = false := by simp; omega
          have H1 := Lib.hid (show k % 2 = 0 by omega)
          clear h1
          go_wp2_with (go_at_call 32; refine (RMul_c _ _ _ _).mono ?_; rintro e w1 ⟨rfl, hn⟩; replace hext := hext.trans hn; clear hn)
          go_roundw
          case rel => exact ⟨x, fmul p b b, k / 2, rfl, rfl, by go_num, hx, fmul_lt HP.out, by omega, rpow_even HV.out HP.out H1.out, hext⟩
          case measure => simp [intOf]; omega

set_option maxHeartbeats 1000000 in
theorem RInv_c (p a : Nat) (w : World) :
    Calls Try.prog 45 #[.int .u64 p, .int .u64 a] w fun e w' => e = .returned (.int .u64 (finv p a)) ∧ Ext w w' := by
  cases h : vld p
  · have H := Lib.hid h
    go_enter Try.func45, Try.ntmps45
    go_wp2_with (go_at_call 29; refine (RValid_c _ _).mono ?_; rintro e w1 ⟨rfl, hb1⟩)
    go_ret
    exact ⟨ret_u _ _ (by simp [finv, fpow, H.out]), hb1⟩
  · have H := Lib.hid h
    have hp := vld_bd h
    have e2 : (p : Int) - 2 = ((p - 2 : Nat) : Int) := by omega
    go_enter Try.func45, Try.ntmps45
    go_wp2_with (first | (go_at_call 29; refine (RValid_c _ _).mono ?_; rintro e w1 ⟨rfl, hb1⟩) | (go_at_call 72; refine (RPow_c p a (p - 2) _ (by omega)).mono ?_; rintro e w2 ⟨rfl, hb2⟩))
    go_ret
    exact ⟨rfl, hb1.trans hb2⟩

/-- Same on two slices that read alike. -/
theorem Same_c (l : List Nat) (a b : Option Addr) (c d : Nat) (w : World) (ha : Rd w a l) (hb : Rd w b l) (hl : l.length ≤ 2000000000) :
    Calls Try.prog 26 #[.slice a l.length c, .slice b l.length d] w fun e w' => e = .returned (.bool true) ∧ Ext w w' := by
  have g0 : ((l.length : Int) != (l.length : Int)) = false := by simp
  go_enter Try.func26, Try.ntmps26
  go_wp2
  go_loopw [5] (fun i wr => ∃ k : Nat, i = .int .i64 k ∧ k ≤ l.length ∧ Ext w wr) (fun i _ => l.length - (intOf i).toNat)
  case atStart => exact ⟨0, rfl, Nat.zero_le _, Ext.refl _⟩
  case round =>
    obtain ⟨k, rfl, hk, hext⟩ := hrel
    by_cases hlt : k < l.length
    · obtain ⟨b1, o1, rfl, hc1⟩ := ha.at (by omega)
      obtain ⟨b2, o2, rfl, hc2⟩ := hb.at (by omega)
      have c1 := hext.cell (hc1 k hlt)
      have c2 := hext.cell (hc2 k hlt)
      obtain ⟨x, hx0⟩ : ∃ x, x = l.getD k 0 := ⟨_, rfl⟩
      rw [← hx0] at c1 c2
      clear hc1 hc2 hx0 ha hb
      go_wp2
      refine region_facts [[], [], [(0, 17), (1, 18)], [(2, 19)], [], [], [(4, 21), (5, 22)], [(6, 23)], [(3, 20), (7, 24)]] [some 17, some 18, some 19, some 20, some 21, some 22, some 23, some 24, some 25] (by kernel_rfl) (by kernel_rfl) ?_
      apply From.eq
      · intro w' hx; have c1x := hx.cell c1; have c2x := hx.cell c2; dsimp only [DepsV, fat, List.nil_append, List.cons_append, eqF]; go_wp2; exact OpPost.some _ rfl rfl (Ext.refl _) rfl
      apply From.eq
      · intro w' hx; have c1x := hx.cell c1; have c2x := hx.cell c2; dsimp only [DepsV, fat, List.nil_append, List.cons_append, eqF]; go_wp2; exact OpPost.some _ rfl rfl (Ext.refl _) rfl
      apply From.eq
      · intro w' hx; have c1x := hx.cell c1; have c2x := hx.cell c2; dsimp only [DepsV, fat, List.nil_append, List.cons_append, eqF]; rintro _ rfl _ rfl; go_wp2; exact OpPost.some _ rfl rfl (Ext.refl _) rfl
      apply From.eq
      · intro w' hx; have c1x := hx.cell c1; have c2x := hx.cell c2; dsimp only [DepsV, fat, List.nil_append, List.cons_append, eqF]; rintro _ rfl; go_wp2; exact OpPost.some _ rfl rfl (Ext.refl _) rfl
      apply From.eq
      · intro w' hx; have c1x := hx.cell c1; have c2x := hx.cell c2; dsimp only [DepsV, fat, List.nil_append, List.cons_append, eqF]; go_wp2; exact OpPost.some _ rfl rfl (Ext.refl _) rfl
      apply From.eq
      · intro w' hx; have c1x := hx.cell c1; have c2x := hx.cell c2; dsimp only [DepsV, fat, List.nil_append, List.cons_append, eqF]; go_wp2; exact OpPost.some _ rfl rfl (Ext.refl _) rfl
      apply From.eq
      · intro w' hx; have c1x := hx.cell c1; have c2x := hx.cell c2; dsimp only [DepsV, fat, List.nil_append, List.cons_append, eqF]; rintro _ rfl _ rfl; go_wp2; exact OpPost.some _ rfl rfl (Ext.refl _) rfl
      apply From.eq
      · intro w' hx; have c1x := hx.cell c1; have c2x := hx.cell c2; dsimp only [DepsV, fat, List.nil_append, List.cons_append, eqF]; rintro _ rfl; go_wp2; exact OpPost.some _ rfl rfl (Ext.refl _) rfl
      apply From.eq
      · intro w' hx; have c1x := hx.cell c1; have c2x := hx.cell c2; dsimp only [DepsV, fat, List.nil_append, List.cons_append, eqF]; rintro _ rfl _ rfl; go_wp2; exact OpPost.some _ rfl rfl (Ext.refl _) rfl
      refine From.fin (fun w' hx => ?_)
      dsimp only [EndV, List.nil_append, List.cons_append, eqF]; rintro _ rfl _ rfl _ rfl _ rfl _ rfl _ rfl _ rfl _ rfl _ rfl; simp only [Act.put, List.setIfInBounds_toArray, List.set_cons_zero, List.set_cons_succ]
      go_wp2
      go_roundw
      case rel => exact ⟨k + 1, by go_num, by omega, hext.trans hx⟩
      case measure => simp [intOf]; omega
    · clear ha hb
      go_wp2
      go_ret
      exact ⟨rfl, hext⟩
end Go.Proofs.Ytcnbinjoeilfgaa
