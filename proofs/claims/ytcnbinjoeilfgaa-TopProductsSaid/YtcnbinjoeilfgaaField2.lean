/- mul, pow, Mul, Inv, Div of package field. -/
import Derived.Test.YtcnbinjoeilfgaaDiv
namespace Go.Proofs.Ytcnbinjoeilfgaa
open Go.RowKit

theorem mul_hi {p a b : Nat} (hp : vld p = true) (ha : a < p) (hb : b < p) : (a * b / 18446744073709551616 = 0 ∨ p = 18446744069414584321) ∧ a * b / 18446744073709551616 < p := by
  have h1 : a * b ≤ (p - 1) * (p - 1) := Nat.mul_le_mul (by omega) (by omega)
  rcases vld_cases hp with h | h | h | h | h | h | h <;> subst h <;> refine ⟨?_, by omega⟩ <;> first | exact .inr rfl | exact .inl (by omega)
theorem mul_val (p a b : Nat) : (a * b / 18446744073709551616 * 18446744073709551616 + a * b % 18446744073709551616) % p = a * b % p := by
  rw [Nat.div_add_mod']

set_option maxHeartbeats 800000 in
theorem mul_c (p a b : Nat) (w : World) (hp : vld p = true) (ha : a < p) (hb : b < p) :
    Calls Try.prog 71 #[.agg #[.int .u64 p], .int .u64 a, .int .u64 b] w fun e w' => e = .returned (.int .u64 ((a * b % p : Nat) : Int)) ∧ Ext w w' := by
  have hq := vld_bd hp
  obtain ⟨h0, h2⟩ := mul_hi hp ha hb
  have hv := mul_val p a b
  obtain ⟨hi, hhi⟩ : ∃ hi, hi = a * b / 18446744073709551616 := ⟨_, rfl⟩
  obtain ⟨lo, hlo⟩ : ∃ lo, lo = a * b % 18446744073709551616 := ⟨_, rfl⟩
  have h3 : lo < 18446744073709551616 := by omega
  have M := Mul64_c a b (by omega) (by omega) (w.alloc (.cells #[.int .u64 p] 29))
  rw [← hhi, ← hlo] at hv M
  rw [← hhi] at h0 h2
  have HM := Lib.hid M
  have HV := Lib.hid hv
  have H0 := Lib.hid h0
  have HP := Lib.hid hp
  clear M hv h0 hp hhi hlo
  go_enter Try.func71, Try.ntmps71
  go_wp2_with (first
    | (go_at_call 58; refine HM.out.mono ?_; rintro e w1 ⟨rfl, rfl⟩)
    | (go_at_call 59; refine (Div64_c p hi lo HP.out H0.out h2 h3 _).mono ?_; rintro e w1 ⟨q, rfl, hb1⟩))
  go_ret
  exact ⟨ret_u _ _ (by rw [← HV.out]; simp), hb1.box⟩

theorem pow_odd {p a0 e0 x b k : Nat} (h : x * b ^ k % p = a0 ^ e0 % p) (hk : k % 2 = 1) : (x * b % p) * (b * b % p) ^ (k / 2) % p = a0 ^ e0 % p := by
  rw [← h, Nat.mod_mul_mod, Nat.mul_mod, Nat.pow_mod, Nat.mod_mod, ← Nat.pow_mod, ← Nat.mul_mod]
  have e1 : (b * b) ^ (k / 2) = b ^ (2 * (k / 2)) := by rw [Nat.pow_mul, Nat.pow_two]
  have e2 : k = 2 * (k / 2) + 1 := by omega
  rw [e1]
  conv => rhs; rw [e2, Nat.pow_succ]
  rw [Nat.mul_assoc, Nat.mul_comm b]
theorem pow_even {p a0 e0 x b k : Nat} (h : x * b ^ k % p = a0 ^ e0 % p) (hk : k % 2 = 0) : x * (b * b % p) ^ (k / 2) % p = a0 ^ e0 % p := by
  rw [← h, Nat.mul_mod, Nat.pow_mod, Nat.mod_mod, ← Nat.pow_mod, ← Nat.mul_mod]
  have e1 : (b * b) ^ (k / 2) = b ^ (2 * (k / 2)) := by rw [Nat.pow_mul, Nat.pow_two]
  have e2 : 2 * (k / 2) = k := by omega
  rw [e1, e2]
theorem pow_last {p a0 e0 x b : Nat} (h : x * b ^ 1 % p = a0 ^ e0 % p) : (x * b % p) * b ^ 0 % p = a0 ^ e0 % p := by
  simpa using h

def PowRel (p a e : Nat) (w0 : World) (s7 s1 s2 : Value) (wr : World) : Prop :=
  ∃ x b k : Nat, s7 = .int .u64 x ∧ s1 = .int .u64 b ∧ s2 = .int .u64 k ∧ x < p ∧ b < p ∧ k < 18446744073709551616 ∧ x * b ^ k % p = a ^ e % p ∧ Ext w0 wr

set_option maxHeartbeats 1600000 in
theorem pow_c (p a e : Nat) (w : World) (hp : vld p = true) (ha : a < p) (he : e < 18446744073709551616) :
    Calls Try.prog 69 #[.agg #[.int .u64 p], .int .u64 a, .int .u64 e] w fun r w' => r = .returned (.int .u64 ((a ^ e % p : Nat) : Int)) ∧ Ext w w' := by
  have hq := vld_bd hp
  have HP := Lib.hid hp
  clear hp
  go_enter Try.func69, Try.ntmps69
  go_wp2
  go_loopw [7, 1, 2] (PowRel p a e (w.alloc (.cells #[.int .u64 p] 29))) (fun _ _ s2 _ => (intOf s2).toNat)
  case atStart => exact ⟨1, a, e, rfl, rfl, rfl, by omega, ha, he, by simp, Ext.refl _⟩
  case round =>
    obtain ⟨x, b, k, rfl, rfl, rfl, hx, hb, hk, hv, hext⟩ := hrel
    have hc := hext.boxCell
    have HV := Lib.hid hv
    clear hv
    by_cases h0 : k = 0
    · subst h0
      go_wp2
      go_ret
      exact ⟨ret_u _ _ (by have := HV.out; rw [Nat.pow_zero, Nat.mul_one, Nat.mod_eq_of_lt hx] at this; rw [this]), hext.box⟩
    · have t0 : decide ((0 : Int) < k) = true := by simp; omega
      by_cases h1 : k % 2 = 1
      · have t1 : bits BinOp.and IntKind.u64 (k : Int) 1 = 1 := by
          have := bits_and_u64_nat k 1 hk (by omega)
          rw [Nat.and_one_is_mod, h1] at this; exact this
        have H1 := Lib.hid h1
        clear h1
        by_cases h2 : k = 1
        · subst h2
          go_wp2_with (go_at_call 71; refine (mul_c p x b _ HP.out hx hb).mono ?_; rintro e w1 ⟨rfl, hb1⟩)
          go_roundw
          case rel => exact ⟨x * b % p, b, 0, rfl, rfl, rfl, Nat.mod_lt _ (by omega), hb, by omega, pow_last HV.out, hext.trans hb1⟩
          case measure => simp [intOf]
        · have t2 : decide ((0 : Int) < (k : Int) / 2) = true := by simp; omega
          go_wp2_with (go_at_call 71; refine (mul_c p _ _ _ HP.out (by first | exact hx | exact hb) hb).mono ?_; rintro e w1 ⟨rfl, hn⟩; replace hext := hext.trans hn; replace hc := hn.cell hc; clear hn)
          go_roundw
          case rel => exact ⟨x * b % p, b * b % p, k / 2, rfl, rfl, by go_num, Nat.mod_lt _ (by omega), Nat.mod_lt _ (by omega), by omega, pow_odd HV.out H1.out, hext⟩
          case measure => simp [intOf]; omega
      · have h1' : k % 2 = 0 := by omega
        have t1 : bits BinOp.and IntKind.u64 (k : Int) 1 = 0 := by
          have := bits_and_u64_nat k 1 hk (by omega)
          rw [Nat.and_one_is_mod, h1'] at this; exact this
        have H1 := Lib.hid h1'
        have t2 : decide ((0 : Int) < (k : Int) / 2) = true := by simp; omega
        clear h1 h1'
        go_wp2_with (go_at_call 71; refine (mul_c p b b _ HP.out hb hb).mono ?_; rintro e w2 ⟨rfl, hb2⟩)
        go_roundw
        case rel => exact ⟨x, b * b % p, k / 2, rfl, rfl, by go_num, hx, Nat.mod_lt _ (by omega), by omega, pow_even HV.out H1.out, hext.trans hb2⟩
        case measure => simp [intOf]; omega

set_option maxHeartbeats 800000 in
theorem Mul_c (p a b : Nat) (w : World) :
    Calls Try.prog 44 #[.agg #[.int .u64 p], .int .u64 a, .int .u64 b] w fun e w' => e = .returned (.int .u64 (fmul p a b)) ∧ Ext w w' := by
  cases h : vld p
  · have H := Lib.hid h
    go_enter Try.func44, Try.ntmps44
    go_wp2_with (go_at_call 39; refine (Valid_c _ _).mono ?_; rintro e w1 ⟨rfl, hb1⟩)
    go_ret
    exact ⟨ret_u _ _ (by simp [fmul, H.out]), hb1.box⟩
  · have H := Lib.hid h
    have hp := (vld_bd h).1
    go_enter Try.func44, Try.ntmps44
    go_wp2_with (go_at_call 39; refine (Valid_c _ _).mono ?_; rintro e w1 ⟨rfl, hb1⟩; have hc := hb1.boxCell)
    refine region_facts [[], [], [], [(1, 11), (2, 12)], [], [], [(4, 14), (5, 15)], [(0, 10), (3, 13), (6, 16)], [(7, 17)]] [some 10, some 11, some 12, some 13, some 14, some 15, some 16, some 17, some 6] (by kernel_rfl) (by kernel_rfl) ?_
    apply From.eq
    · intro w' hx; have hcx := hx.cell hc; dsimp only [DepsV, fat, List.nil_append, List.cons_append, eqF]; go_wp2; exact OpPost.some _ rfl rfl (Ext.refl _) rfl
    apply From.eq
    · intro w' hx; have hcx := hx.cell hc; dsimp only [DepsV, fat, List.nil_append, List.cons_append, eqF]; go_wp2; exact OpPost.some _ rfl rfl (Ext.refl _) rfl
    apply From.eq
    · intro w' hx; have hcx := hx.cell hc; dsimp only [DepsV, fat, List.nil_append, List.cons_append, eqF]; go_wp2; exact OpPost.some _ rfl rfl (Ext.refl _) rfl
    apply From.eq
    · intro w' hx; have hcx := hx.cell hc; dsimp only [DepsV, fat, List.nil_append, List.cons_append, eqF]; rintro _ rfl _ rfl; go_wp2_with (go_at_call 70; refine (reduced_c p a _ (by omega)).mono ?_; rintro e w2 ⟨rfl, hb2⟩); exact OpPost.some _ rfl rfl hb2 rfl
    apply From.eq
    · intro w' hx; have hcx := hx.cell hc; dsimp only [DepsV, fat, List.nil_append, List.cons_append, eqF]; go_wp2; exact OpPost.some _ rfl rfl (Ext.refl _) rfl
    apply From.eq
    · intro w' hx; have hcx := hx.cell hc; dsimp only [DepsV, fat, List.nil_append, List.cons_append, eqF]; go_wp2; exact OpPost.some _ rfl rfl (Ext.refl _) rfl
    apply From.eq
    · intro w' hx; have hcx := hx.cell hc; dsimp only [DepsV, fat, List.nil_append, List.cons_append, eqF]; rintro _ rfl _ rfl; go_wp2_with (go_at_call 70; refine (reduced_c p b _ (by omega)).mono ?_; rintro e w2 ⟨rfl, hb2⟩); exact OpPost.some _ rfl rfl hb2 rfl
    apply From.eq
    · intro w' hx; have hcx := hx.cell hc; dsimp only [DepsV, fat, List.nil_append, List.cons_append, eqF]; rintro _ rfl _ rfl _ rfl; go_wp2_with (go_at_call 71; refine (mul_c p (a % p) (b % p) _ H.out (Nat.mod_lt _ (by omega)) (Nat.mod_lt _ (by omega))).mono ?_; rintro e w2 ⟨rfl, hb2⟩); exact OpPost.some _ rfl rfl hb2 rfl
    apply From.eq
    · intro w' hx; have hcx := hx.cell hc; dsimp only [DepsV, fat, List.nil_append, List.cons_append, eqF]; rintro _ rfl; go_wp2; exact OpPost.some _ rfl rfl (Ext.refl _) rfl
    refine From.fin (fun w' hx => ?_)
    dsimp only [EndV, List.nil_append, List.cons_append, eqF]; rintro _ rfl _ rfl _ rfl _ rfl _ rfl _ rfl _ rfl _ rfl _ rfl; simp only [Act.put, List.setIfInBounds_toArray, List.set_cons_zero, List.set_cons_succ]
    go_wp2
    go_ret
    exact ⟨ret_u _ _ (by unfold fmul; rw [H.out]; simp), hb1.box.trans hx⟩

set_option maxHeartbeats 800000 in
theorem Inv_c (p a : Nat) (w : World) :
    Calls Try.prog 43 #[.agg #[.int .u64 p], .int .u64 a] w fun e w' => e = .returned (.int .u64 (finv p a)) ∧ Ext w w' := by
  cases h : vld p
  · have H := Lib.hid h
    go_enter Try.func43, Try.ntmps43
    go_wp2_with (go_at_call 39; refine (Valid_c _ _).mono ?_; rintro e w1 ⟨rfl, hb1⟩)
    go_ret
    exact ⟨ret_u _ _ (by simp [finv, fpow, H.out]), hb1.box⟩
  · have H := Lib.hid h
    have hp := vld_bd h
    have e2 : (p : Int) - 2 = ((p - 2 : Nat) : Int) := by omega
    go_enter Try.func43, Try.ntmps43
    go_wp2_with (go_at_call 39; refine (Valid_c _ _).mono ?_; rintro e w1 ⟨rfl, hb1⟩; have hc := hb1.boxCell)
    refine region_facts [[], [], [], [(1, 9), (2, 10)], [], [(4, 12)], [(5, 13)], [(0, 8), (3, 11), (6, 14)], [(7, 15)]] [some 8, some 9, some 10, some 11, some 12, some 13, some 14, some 15, some 4] (by kernel_rfl) (by kernel_rfl) ?_
    apply From.eq
    · intro w' hx; have hcx := hx.cell hc; dsimp only [DepsV, fat, List.nil_append, List.cons_append, eqF]; go_wp2; exact OpPost.some _ rfl rfl (Ext.refl _) rfl
    apply From.eq
    · intro w' hx; have hcx := hx.cell hc; dsimp only [DepsV, fat, List.nil_append, List.cons_append, eqF]; go_wp2; exact OpPost.some _ rfl rfl (Ext.refl _) rfl
    apply From.eq
    · intro w' hx; have hcx := hx.cell hc; dsimp only [DepsV, fat, List.nil_append, List.cons_append, eqF]; go_wp2; exact OpPost.some _ rfl rfl (Ext.refl _) rfl
    apply From.eq
    · intro w' hx; have hcx := hx.cell hc; dsimp only [DepsV, fat, List.nil_append, List.cons_append, eqF]; rintro _ rfl _ rfl; go_wp2_with (go_at_call 70; refine (reduced_c p a _ (by omega)).mono ?_; rintro e w2 ⟨rfl, hb2⟩); exact OpPost.some _ rfl rfl hb2 rfl
    apply From.eq
    · intro w' hx; have hcx := hx.cell hc; dsimp only [DepsV, fat, List.nil_append, List.cons_append, eqF]; go_wp2; exact OpPost.some _ rfl rfl (Ext.refl _) rfl
    apply From.eq
    · intro w' hx; have hcx := hx.cell hc; dsimp only [DepsV, fat, List.nil_append, List.cons_append, eqF]; rintro _ rfl; go_wp2; exact OpPost.some _ rfl rfl (Ext.refl _) rfl
    apply From.eq
    · intro w' hx; have hcx := hx.cell hc; dsimp only [DepsV, fat, List.nil_append, List.cons_append, eqF]; rintro _ rfl; go_wp2; exact OpPost.some _ rfl rfl (Ext.refl _) rfl
    apply From.eq
    · intro w' hx; have hcx := hx.cell hc; dsimp only [DepsV, fat, List.nil_append, List.cons_append, eqF]; rintro _ rfl _ rfl _ rfl; go_wp2_with (go_at_call 69; refine (pow_c p (a % p) (p - 2) _ H.out (Nat.mod_lt _ (by omega)) (by omega)).mono ?_; rintro e w2 ⟨rfl, hb2⟩); exact OpPost.some _ rfl rfl hb2 rfl
    apply From.eq
    · intro w' hx; have hcx := hx.cell hc; dsimp only [DepsV, fat, List.nil_append, List.cons_append, eqF]; rintro _ rfl; go_wp2; exact OpPost.some _ rfl rfl (Ext.refl _) rfl
    refine From.fin (fun w' hx => ?_)
    dsimp only [EndV, List.nil_append, List.cons_append, eqF]; rintro _ rfl _ rfl _ rfl _ rfl _ rfl _ rfl _ rfl _ rfl _ rfl; simp only [Act.put, List.setIfInBounds_toArray, List.set_cons_zero, List.set_cons_succ]
    go_wp2
    go_ret
    exact ⟨ret_u _ _ (by unfold finv fpow; rw [H.out]; simp [Nat.pow_mod]), hb1.box.trans hx⟩

set_option maxHeartbeats 800000 in
theorem Div_c (p a b : Nat) (w : World) :
    Calls Try.prog 63 #[.agg #[.int .u64 p], .int .u64 a, .int .u64 b] w fun e w' => e = .returned (.int .u64 (fdiv p a b)) ∧ Ext w w' := by
  go_enter Try.func63, Try.ntmps63
  go_wp2
  have hc : (w.alloc (.cells #[.int .u64 p] 29)).cell? ⟨w.heap.size, 0, none⟩ = some (.int .u64 p) := by simp
  refine region_facts [[], [], [], [], [(2, 9), (3, 10)], [(0, 7), (1, 8), (4, 11)], [(5, 12)]] [some 7, some 8, some 9, some 10, some 11, some 12, some 6] (by kernel_rfl) (by kernel_rfl) ?_
  apply From.eq
  · intro w' hx; have hcx := hx.cell hc; dsimp only [DepsV, fat, List.nil_append, List.cons_append, eqF]; go_wp2; exact OpPost.some _ rfl rfl (Ext.refl _) rfl
  apply From.eq
  · intro w' hx; have hcx := hx.cell hc; dsimp only [DepsV, fat, List.nil_append, List.cons_append, eqF]; go_wp2; exact OpPost.some _ rfl rfl (Ext.refl _) rfl
  apply From.eq
  · intro w' hx; have hcx := hx.cell hc; dsimp only [DepsV, fat, List.nil_append, List.cons_append, eqF]; go_wp2; exact OpPost.some _ rfl rfl (Ext.refl _) rfl
  apply From.eq
  · intro w' hx; have hcx := hx.cell hc; dsimp only [DepsV, fat, List.nil_append, List.cons_append, eqF]; go_wp2; exact OpPost.some _ rfl rfl (Ext.refl _) rfl
  apply From.eq
  · intro w' hx; have hcx := hx.cell hc; dsimp only [DepsV, fat, List.nil_append, List.cons_append, eqF]; rintro _ rfl _ rfl; go_wp2_with (go_at_call 43; refine (Inv_c _ _ _).mono ?_; rintro e w2 ⟨rfl, hb2⟩); exact OpPost.some _ rfl rfl hb2 rfl
  apply From.eq
  · intro w' hx; have hcx := hx.cell hc; dsimp only [DepsV, fat, List.nil_append, List.cons_append, eqF]; rintro _ rfl _ rfl _ rfl; go_wp2_with (go_at_call 44; refine (Mul_c _ _ _ _).mono ?_; rintro e w2 ⟨rfl, hb2⟩); exact OpPost.some _ rfl rfl hb2 rfl
  apply From.eq
  · intro w' hx; have hcx := hx.cell hc; dsimp only [DepsV, fat, List.nil_append, List.cons_append, eqF]; rintro _ rfl; go_wp2; exact OpPost.some _ rfl rfl (Ext.refl _) rfl
  refine From.fin (fun w' hx => ?_)
  dsimp only [EndV, List.nil_append, List.cons_append, eqF]; rintro _ rfl _ rfl _ rfl _ rfl _ rfl _ rfl _ rfl; simp only [Act.put, List.setIfInBounds_toArray, List.set_cons_zero, List.set_cons_succ]
  go_wp2
  go_ret
  exact ⟨rfl, hx.box⟩
end Go.Proofs.Ytcnbinjoeilfgaa
